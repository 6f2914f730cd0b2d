/- Plain laws: WideText. Our own work. -/
import Derived.Test.YtlmmgjngihlpeaaDoorTxtD
import Derived.Test.YtlmmgjngihlpeaaDoorZedB
namespace Go.Proofs.YtlmmgjngihlpeaaDoor.Sx
open Go
set_option linter.unusedVariables false
set_option linter.unusedSimpArgs false
set_option maxRecDepth 100000
def smlTab:Bool:=(List.range 100).all fun n=>(cond (decide (n<10)) (ByteArray.extract strC1 n (n+1)) (ByteArray.extract strC2 (n*2) (n*2+2))).data.toList==(bytesS (decL n)).data.toList
theorem sml_ok{n:Nat}(h:n<100):cond (decide (n<10)) (ByteArray.extract strC1 n (n+1)) (ByteArray.extract strC2 (n*2) (n*2+2))=bytesS (decL n):=by
 have h0:smlTab=true:=by kernel_rfl
 have h1:=(List.all_eq_true.1 h0) n (List.mem_range.2 h)
 exact bytes_ext (by simpa using h1)
theorem strC1_size:strC1.size=36:=by kernel_rfl
section
variable {α:Type}
theorem small_ok(m:Nat){n:Nat}(h:n<100)(k:ByteArray→Option α):g126 m (n:Int) k=k (bytesS (decL n)):=by
 rw[g126_o]
 dsimp only
 have:=sml_ok h
 have s1:=strC1_size
 have s2:=strC2_size
 by_cases h1:n<10
 ·rw[dT h1,cond_true] at this
  rw[dT (by omega),cond_true,wrapI (by omega) (by omega),if_pos (by omega),show Int.toNat (n:Int)=n by omega,show Int.toNat ((n:Int)+1)=n+1 by omega,this]
 ·rw[dF h1,cond_false] at this
  rw[dF (by omega),cond_false,wrapI (x:=(n:Int)*2) (by omega) (by omega),wrapI (by omega) (by omega),if_pos (by omega),show Int.toNat ((n:Int)*2)=n*2 by omega,show Int.toNat ((n:Int)*2+2)=n*2+2 by omega,this]
theorem fb_all{n nd:Nat}(h:nd≤23):List.take nd (List.drop 1 (fb (List.replicate 24 0) 1 nd n nd))=padL nd n:=by
 unfold fb
 rw[show 1+nd-nd=1 by omega]
 show List.take nd (padL nd n++List.drop (1+nd) (List.replicate 24 0))=_
 rw[List.take_append_of_le_length (by rw[padL_length];omega),List.take_of_length_le (by rw[padL_length];omega)]
theorem ndig20{n:Nat}(h:n<18446744073709551616):ndig n≤20:=ndig_le (by decide) (by omega)
theorem fmtPos(m:Nat)(hm:4≤m){n:Nat}(hn:n<9223372036854775808)(k:ByteArray→Option α):g114 m (n:Int) 10 k=k (bytesS (decL n)):=by
 have hd:=ndig20 (n:=n) (by omega)
 have hlt:=(ndig_spec n n (Nat.le_refl _)).1
 rw[g114_o,show((10:Int)==10)=true from rfl,cond_true,dT (by omega),cond_true]
 by_cases h1:n<100
 ·rw[dT (by omega),cond_true,small_ok m h1]
 ·rw[dF (by omega),cond_false]
  dsimp only
  rw[wU64 (by omega),dF (by omega),cond_false,numDig m (by omega) (by omega),wrapI (by omega) (by omega),if_pos (by omega),show Int.toNat ((1:Int)+(ndig n:Nat))-1=ndig n by omega,fBase (by simp) (by omega) hlt (by omega) m hm,cond_false,if_pos (by omega),if_pos (by omega),fb_all (by omega)];rfl
theorem itoaPos(m:Nat)(hm:4≤m){n:Nat}(hn:n<9223372036854775808)(k:ByteArray→Option α):g43 m (n:Int) k=k (bytesS (decL n)):=by
 rw[g43_o,g84_o,fmtPos m hm hn]
theorem rep0(m:Nat)(k:ByteArray→Option α):g50 m (⟨#[48]⟩:ByteArray) 0 k=k (bytesS []):=by kernel_rfl
theorem rep1(m:Nat)(k:ByteArray→Option α):g50 m (⟨#[48]⟩:ByteArray) 1 k=k (bytesS [48]):=by kernel_rfl
theorem rep2(m:Nat)(k:ByteArray→Option α):g50 m (⟨#[48]⟩:ByteArray) 2 k=k (bytesS [48,48]):=by kernel_rfl
theorem rep3(m:Nat)(k:ByteArray→Option α):g50 m (⟨#[48]⟩:ByteArray) 3 k=k (bytesS [48,48,48]):=by kernel_rfl
theorem rep4(m:Nat)(k:ByteArray→Option α):g50 m (⟨#[48]⟩:ByteArray) 4 k=k (bytesS [48,48,48,48]):=by kernel_rfl
theorem rep5(m:Nat)(k:ByteArray→Option α):g50 m (⟨#[48]⟩:ByteArray) 5 k=k (bytesS [48,48,48,48,48]):=by kernel_rfl
theorem rep6(m:Nat)(k:ByteArray→Option α):g50 m (⟨#[48]⟩:ByteArray) 6 k=k (bytesS [48,48,48,48,48,48]):=by kernel_rfl
theorem rep7(m:Nat)(k:ByteArray→Option α):g50 m (⟨#[48]⟩:ByteArray) 7 k=k (bytesS [48,48,48,48,48,48,48]):=by kernel_rfl
theorem rep8(m:Nat)(k:ByteArray→Option α):g50 m (⟨#[48]⟩:ByteArray) 8 k=k (bytesS [48,48,48,48,48,48,48,48]):=by kernel_rfl
theorem repZ(m c:Nat)(h:c≤8)(k:ByteArray→Option α):g50 m (⟨#[48]⟩:ByteArray) (c:Int) k=k (bytesS (List.replicate c 48)):=by
 match c,h with
 |0,_=>exact rep0 m k
 |1,_=>exact rep1 m k
 |2,_=>exact rep2 m k
 |3,_=>exact rep3 m k
 |4,_=>exact rep4 m k
 |5,_=>exact rep5 m k
 |6,_=>exact rep6 m k
 |7,_=>exact rep7 m k
 |8,_=>exact rep8 m k
 |c+9,h=>exact absurd h (by omega)
theorem chunk{a:Nat}(h:1000000000≤a):decL a=decL (a/1000000000)++padL 9 (a%1000000000):=by
 have:=decL_split (n:=a) (j:=9) (by omega)
 rw[this,←padL_mod 9 a]
theorem implTxtS(m:Nat)(hm:300≤m)(q:Bool)(u:List Int)(k:ByteArray→Option α)(F a:Nat)(z:List Int)(ha:a<W192)(hz:z.length≤100000):
  g14l0 (g49 m) (g43 m) (g50 m) q u k (F+1) (bytesS z) (limbs 6 a)=if a/1000000000=0 then k (bytesS (decL a++z)) else g14l0 (g49 m) (g43 m) (g50 m) q u k F (bytesS (padL 9 (a%1000000000)++z)) (limbs 6 (a/1000000000)):=by
 obtain⟨n,rfl⟩:∃n,m=n+7:=⟨m-7,by omega⟩
 have hr:a%1000000000<1000000000:=Nat.mod_lt _ (by decide)
 have hr9:=ndig_le (n:=a%1000000000) (k:=9) (by decide) (by omega)
 have hr1:=(ndig_spec (a%1000000000) (a%1000000000) (Nat.le_refl _)).2.2
 have hlr:(bytesS (decL (a%1000000000))).size=ndig (a%1000000000):=by rw[bytesS_len,decL_len]
 have hlz:(bytesS z).size=z.length:=bytesS_len z
 rw[g14l0_s,show(1000000000:Int)=((1000000000:Nat):Int) from rfl,g49L n ha (by decide) (by decide),wrapI (by omega) (by omega),itoaPos _ (by omega) (by omega),eqLI_zero (Nat.lt_of_le_of_lt (Nat.div_le_self _ _) ha)]
 by_cases h0:a/1000000000=0
 ·rw[if_pos h0,dT h0,cond_true,if_pos (by omega),←bytesS_app,Nat.mod_eq_of_lt (by omega)]
 ·rw[if_neg h0,dF h0,cond_false,hlr,wrapI (by omega) (by omega),show(9:Int)-((ndig (a%1000000000):Nat):Int)=((9-ndig (a%1000000000):Nat):Int) by omega,repZ _ _ (by omega)]
  have hls:(bytesS (List.replicate (9-ndig (a%1000000000)) 48)).size=9-ndig (a%1000000000):=by rw[bytesS_len,List.length_replicate]
  rw[if_pos (by omega)]
  dsimp only
  rw[←bytesS_app,←padL_dec hr9,if_pos (by rw[bytesS_len,padL_length];omega),←bytesS_app]
theorem implTxt(m:Nat)(hm:300≤m)(q:Bool)(u:List Int)(k:ByteArray→Option α):∀(d F a:Nat) (z:List Int),d<F→a<W192→a<1000000000^(d+1)→z.length+9*(d+1)≤100000→
  g14l0 (g49 m) (g43 m) (g50 m) q u k F (bytesS z) (limbs 6 a)=k (bytesS (decL a++z))
 |0,F,a,z,hd,ha,hF,hz=>by
  obtain⟨F,rfl⟩:∃n,F=n+1:=⟨F-1,by omega⟩
  rw[implTxtS m hm q u k F a z ha (by omega),if_pos (Nat.div_eq_of_lt hF)]
 |d+1,F,a,z,hd,ha,hF,hz=>by
  obtain⟨F,rfl⟩:∃n,F=n+1:=⟨F-1,by omega⟩
  rw[implTxtS m hm q u k F a z ha (by omega)]
  by_cases h0:a/1000000000=0
  ·rw[if_pos h0]
  ·rw[if_neg h0,implTxt m hm q u k d F (a/1000000000) (padL 9 (a%1000000000)++z) (by omega) (Nat.lt_of_le_of_lt (Nat.div_le_self _ _) ha) (by
     rw[Nat.pow_succ] at hF
     exact(Nat.div_lt_iff_lt_mul (by decide)).2 hF) (by rw[List.length_append,padL_length];omega),←List.append_assoc,←chunk (by omega)]
def txtZ(z:Int):ByteArray:=bytesS (cond (zs z) (45::decL z.natAbs) (decL z.natAbs))
theorem w192_9:W192<1000000000^(8+1):=by decide
theorem ndigW{a:Nat}(h:a<W192):ndig a≤81:=ndig_le (by decide) (Nat.lt_of_lt_of_le h (by decide))
theorem sgnTxt(q:Bool)(a:Nat)(h:a<W192)(k:ByteArray→Option α):cond q (if(⟨#[45]⟩:ByteArray).size+(bytesS (decL a)).size≤9223372036854775807 then k ((⟨#[45]⟩:ByteArray)++bytesS (decL a)) else none) (k (bytesS (decL a)))=k (bytesS (cond q (45::decL a) (decL a))):=by
 cases q with
 |false=>rfl
 |true=>
  have hl:=bytesS_len (decL a)
  have:=ndigW h
  rw[decL_len] at hl
  show(if(bytesS [45]).size+_≤_ then k (bytesS [45]++bytesS (decL a)) else none)=k (bytesS (45::decL a))
  rw[if_pos (by rw[bytesS_len [45]];simp only[List.length_singleton];omega),←bytesS_app];rfl
theorem implWideText(m:Nat)(hm:300≤m){z:Int}(hz:z.natAbs<W192)(k:ByteArray→Option α):g14 m (zs z) (zl z) k=k (txtZ z):=by
 rw[g14_o,g20Z m hz,Bool.not_true,cond_false]
 refine(implTxt m hm (zs z) (zl z) _ 8 m z.natAbs [] (by omega) hz (Nat.lt_trans hz w192_9) (by decide)).trans ?_
 rw[List.append_nil]
 exact sgnTxt (zs z) _ hz k
end
end Go.Proofs.YtlmmgjngihlpeaaDoor.Sx
