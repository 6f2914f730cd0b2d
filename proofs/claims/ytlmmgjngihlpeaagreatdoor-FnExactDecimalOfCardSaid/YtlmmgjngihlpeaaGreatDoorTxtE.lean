import Derived.Test.YtlmmgjngihlpeaaGreatDoorTxtC
import Derived.Test.YtlmmgjngihlpeaaGreatDoorZedD
namespace Go.Proofs.YtlmmgjngihlpeaaGreatDoor.Sx
open Go
set_option linter.unusedVariables false
set_option linter.unusedSimpArgs false
set_option maxRecDepth 100000
section
variable {l:List Int} {off nd u cap:Nat} {α:Type}
theorem fb_loop{K:Int→Int→List Int→Option α}(hl:l.length=24)(ho:off+nd≤24)(hu:u<18446744073709551616){w:Nat}(hw:w<8):∀(d j F:Nat),nd=j+8*d+w→d<F→
  g166l0 off nd cap K F ((u/10^j:Nat):Int) ((nd-j:Nat):Int) (fb l off nd u j)=K ((u/10^(nd-w):Nat):Int) (w:Int) (fb l off nd u (nd-w))
 |0,j,F,h,hF=>by
  obtain⟨F,rfl⟩:∃n,F=n+1:=⟨F-1,by omega⟩
  rw[g166l0_s,dF (by omega),cond_false,show nd-j=w by omega,show nd-w=j by omega]
 |d+1,j,F,h,hF=>by
  obtain⟨F,rfl⟩:∃n,F=n+1:=⟨F-1,by omega⟩
  rw[fb_step hl ho (by omega) (Nat.lt_of_le_of_lt (Nat.div_le_self _ _) hu),fb_loop hl ho hu hw d (j+8) F (by omega) (by omega)]
def T2(off nd:Nat)(k:List Int→Option α)(v w:Int)(L:List Int):Option α:=
 cond (decide (w≥(2:Int)))
  (let x464:Int:=IntKind.wrap .u32 ((Int.tmod v (100:Int))*(2:Int))
   let x466:Int:=IntKind.wrap .i64 (w-(1:Int))
   let x467:Int:=IntKind.wrap .i64 (w-(2:Int))
   let x468:Int:=IntKind.wrap .u32 (x464+(1:Int))
   if 0≤x468∧x468<strC2.size then
   if 0≤x464∧x464<strC2.size then
   if 0≤x466∧x466<(nd:Nat) then
   if(off+x466.toNat)<24 then
   if 0≤x467∧x467<(nd:Nat) then
   if(off+x467.toNat)<24 then
   let l472:List Int:=List.set (List.set L (off+x466.toNat) (byteAt strC2 x468.toNat)) (off+x467.toNat) (byteAt strC2 x464.toNat)
   cond (decide ((IntKind.wrap .i64 (w-(2:Int)))>(0:Int))) (if 0≤(0:Int)∧(0:Int)<(nd:Nat) then if(off+0)<24 then k (List.set l472 (off+0) (IntKind.wrap .u8 (IntKind.wrap .u32 ((48:Int)+(IntKind.wrap .u32 (Int.tdiv v (100:Int))))))) else none else none) (k l472)
   else none else none else none else none else none else none)
  (cond (decide (w>(0:Int))) (if 0≤(0:Int)∧(0:Int)<(nd:Nat) then if(off+0)<24 then k (List.set L (off+0) (IntKind.wrap .u8 (IntKind.wrap .u32 ((48:Int)+v)))) else none else none) (k L))
theorem T2_ok(hl:l.length=24)(ho:off+nd≤24){w:Nat}(hw:w≤3)(hwn:w≤nd)(hu:u/10^(nd-w)<10^w)(k:List Int→Option α):
  T2 off nd k ((u/10^(nd-w):Nat):Int) (w:Int) (fb l off nd u (nd-w))=k (fb l off nd u nd):=by
 have hlo:off+nd≤l.length:=by omega
 have q:∀i,u/10^(nd-w+i)=u/10^(nd-w)/10^i:=fun i=>by rw[Nat.pow_add,←Nat.div_div_eq_div_mul]
 have q0:u/10^(nd-w)=u/10^(nd-w):=rfl
 unfold T2
 generalize hvv:u/10^(nd-w)=v at*
 have h1000:v<1000:=by
  have:=Nat.pow_le_pow_right (show 0<10 by decide) hw
  omega
 by_cases h2:2≤w
 ·rw[dT (by omega),cond_true]
  extract_lets x1 i1 i2 z1 L1
  have e1:x1=((2*(v%100):Nat):Int):=by
   show IntKind.wrap .u32 (Int.tmod (v:Int) 100*2)=_
   rw[tm2,dbl,w32 (by omega)]
  have g1:i1=(w:Int)-1:=wrapI (by omega) (by omega)
  have g2:i2=(w:Int)-2:=wrapI (by omega) (by omega)
  have h3:z1=((2*(v%100)+1:Nat):Int):=by
   show IntKind.wrap .u32 (x1+1)=_
   rw[e1,dbl1,w32 (by omega)]
  have c2:v%100<100:=by omega
  have hL1:L1=fb l off nd u (nd-w+1+1):=by
   show List.set (List.set _ (off+i1.toNat) (byteAt strC2 z1.toNat)) (off+i2.toNat) (byteAt strC2 x1.toNat)=_
   rw[h3,e1,Int.toNat_natCast,Int.toNat_natCast,(sm_ok c2).1,(sm_ok c2).2,fb_set hlo (j:=nd-w) (by omega) (by rw[g1];omega) (by rw[hvv];omega),fb_set hlo (j:=nd-w+1) (by omega) (by rw[g2];omega) (by rw[q 1];omega)]
  have sz:=strC2_size
  rw[if_pos (by rw[h3];omega),if_pos (by rw[e1];omega),if_pos (by rw[g1];omega),if_pos (by rw[g1];omega),if_pos (by rw[g2];omega),if_pos (by rw[g2];omega),hL1,wrapI (by omega) (by omega)]
  by_cases h5:w=3
  ·rw[dT (by omega),cond_true,if_pos (by omega),if_pos (by omega),td2,w32 (by omega),show(48:Int)+((v/100:Nat):Int)=((48+v/100:Nat):Int) by omega,w32 (by omega),wrapB (by omega) (by omega),
    fb_set hlo (j:=nd-w+1+1) (by omega) (by omega) (by rw[show nd-w+1+1=nd-w+2 from rfl,q 2];omega),show nd-w+1+1+1=nd by omega]
  ·rw[dF (by omega),cond_false,show nd-w+1+1=nd by omega]
 ·rw[dF (by omega),cond_false]
  by_cases h5:w=1
  ·subst h5
   rw[dT (by decide),cond_true,if_pos (by omega),if_pos (by omega),show(48:Int)+((v:Nat):Int)=((48+v:Nat):Int) by omega,w32 (by omega),wrapB (by omega) (by omega),
    fb_set hlo (j:=nd-1) (by omega) (by omega) (by rw[hvv];omega),show nd-1+1=nd by omega]
  ·rw[dF (by omega),cond_false,show nd-w=nd by omega]
theorem fBase(hl:l.length=24)(ho:off+nd≤24)(hn:u<10^nd)(hu:u<18446744073709551616)(m:Nat)(hm:4≤m)(k:List Int→Option α):
  g166 m off nd cap (u:Int) l k=k (fb l off nd u nd):=by
 have hlo:off+nd≤l.length:=by omega
 have e0:fb l off nd u 0=l:=by
  unfold fb
  show l.take (off+nd)++([]++l.drop (off+nd))=l
  rw[List.nil_append,List.take_append_drop]
 have hlp:∀K:Int→Int→List Int→Option α,g166l0 off nd cap K m (u:Int) (nd:Int) l=K ((u/10^(nd-nd%8):Nat):Int) ((nd%8:Nat):Int) (fb l off nd u (nd-nd%8)):=fun K=>by
  have h:=fb_loop (l:=l) (off:=off) (nd:=nd) (u:=u) (cap:=cap) (K:=K) hl ho hu (w:=nd%8) (by omega) (nd/8) 0 m (by omega) (by omega)
  rw[e0,Nat.pow_zero,Nat.div_one,Nat.sub_zero] at h
  exact h
 rw[g166_o,hlp]
 have hw:nd%8<8:=by omega
 have hwn:nd%8≤nd:=by omega
 have hv:u/10^(nd-nd%8)<10^(nd%8):=by
  rw[Nat.div_lt_iff_lt_mul (Nat.pow_pos (by decide)),←Nat.pow_add,show nd%8+(nd-nd%8)=nd by omega];exact hn
 generalize nd%8=w at*
 have hw7:10^w≤10^7:=Nat.pow_le_pow_right (by decide) (by omega)
 by_cases h4:4≤w
 ·have q:∀i,u/10^(nd-w+i)=u/10^(nd-w)/10^i:=fun i=>by rw[Nat.pow_add,←Nat.div_div_eq_div_mul]
  have hv2:u/10^(nd-(w-4))<10^(w-4):=by
   rw[show nd-(w-4)=nd-w+4 by omega,q 4,Nat.div_lt_iff_lt_mul (by decide),←Nat.pow_add,show w-4+4=w by omega];exact hv
  have hT:=T2_ok hl ho (w:=w-4) (by omega) (by omega) hv2 k
  rw[show nd-(w-4)=nd-w+1+1+1+1 by omega,show nd-w+1+1+1+1=nd-w+4 from rfl,q 4] at hT
  generalize hvv:u/10^(nd-w)=v at*
  dsimp only
  rw[dT (by omega),cond_true,w32 (by omega)]
  show(let x421:Int:=Int.tmod (v:Int) (10000:Int)
   let x422:Int:=IntKind.wrap .u32 (Int.tdiv (v:Int) (10000:Int))
   let x424:Int:=IntKind.wrap .u32 ((IntKind.wrap .u32 (Int.tdiv x421 (100:Int)))*(2:Int))
   let x426:Int:=IntKind.wrap .u32 ((Int.tmod x421 (100:Int))*(2:Int))
   let x427:Int:=IntKind.wrap .i64 ((w:Int)-(1:Int))
   let x428:Int:=IntKind.wrap .i64 ((w:Int)-(2:Int))
   let x429:Int:=IntKind.wrap .u32 (x426+(1:Int))
   let x434:Int:=IntKind.wrap .i64 ((w:Int)-(3:Int))
   let x435:Int:=IntKind.wrap .i64 ((w:Int)-(4:Int))
   let x436:Int:=IntKind.wrap .u32 (x424+(1:Int))
   if 0≤x429∧x429<strC2.size then
   if 0≤x426∧x426<strC2.size then
   if 0≤x427∧x427<(nd:Nat) then
   if(off+x427.toNat)<24 then
   if 0≤x428∧x428<(nd:Nat) then
   if(off+x428.toNat)<24 then
   if 0≤x436∧x436<strC2.size then
   if 0≤x424∧x424<strC2.size then
   if 0≤x434∧x434<(nd:Nat) then
   if(off+x434.toNat)<24 then
   if 0≤x435∧x435<(nd:Nat) then
   if(off+x435.toNat)<24 then
   T2 off nd k x422 (IntKind.wrap .i64 ((w:Int)-(4:Int))) (List.set (List.set (List.set (List.set (fb l off nd u (nd-w)) (off+x427.toNat) (byteAt strC2 x429.toNat)) (off+x428.toNat) (byteAt strC2 x426.toNat)) (off+x434.toNat) (byteAt strC2 x436.toNat)) (off+x435.toNat) (byteAt strC2 x424.toNat))
   else none else none else none else none else none else none else none else none else none else none else none else none)=_
  extract_lets x1 x2 x4 x5 i1 i2 z1 i3 i4 z2
  have e1:x1=((v%10000:Nat):Int):=tm4 _
  have e2:x2=((v/10000:Nat):Int):=by
   show IntKind.wrap .u32 (Int.tdiv (v:Int) 10000)=_
   rw[td4,w32 (by omega)]
  have e4:x4=((2*(v%10000/100):Nat):Int):=by
   show IntKind.wrap .u32 (IntKind.wrap .u32 (Int.tdiv x1 100)*2)=_
   rw[e1,td2,w32 (by omega),dbl,w32 (by omega)]
  have e5:x5=((2*(v%10000%100):Nat):Int):=by
   show IntKind.wrap .u32 (Int.tmod x1 100*2)=_
   rw[e1,tm2,dbl,w32 (by omega)]
  have g1:i1=(w:Int)-1:=wrapI (by omega) (by omega)
  have g2:i2=(w:Int)-2:=wrapI (by omega) (by omega)
  have g3:i3=(w:Int)-3:=wrapI (by omega) (by omega)
  have g4:i4=(w:Int)-4:=wrapI (by omega) (by omega)
  have k1:z1=((2*(v%10000%100)+1:Nat):Int):=by
   show IntKind.wrap .u32 (x5+1)=_
   rw[e5,dbl1,w32 (by omega)]
  have k2:z2=((2*(v%10000/100)+1:Nat):Int):=by
   show IntKind.wrap .u32 (x4+1)=_
   rw[e4,dbl1,w32 (by omega)]
  clear_value x1 x2 x4 x5 i1 i2 z1 i3 i4 z2
  subst e2;subst e4;subst e5;subst g1;subst g2;subst g3;subst g4;subst k1;subst k2
  have sz:=strC2_size
  have c1:v%10000/100<100:=by omega
  have c2:v%10000%100<100:=by omega
  rw[if_pos (by omega),if_pos (by omega),if_pos (by omega),if_pos (by omega),if_pos (by omega),if_pos (by omega),if_pos (by omega),if_pos (by omega),if_pos (by omega),if_pos (by omega),if_pos (by omega),if_pos (by omega)]
  rw[Int.toNat_natCast,Int.toNat_natCast,Int.toNat_natCast,Int.toNat_natCast,(sm_ok c2).2,(sm_ok c2).1,(sm_ok c1).2,(sm_ok c1).1]
  rw[fb_set hlo (j:=nd-w) (by omega) (by omega) (by rw[hvv];omega),fb_set hlo (j:=nd-w+1) (by omega) (by omega) (by rw[q 1];omega),fb_set hlo (j:=nd-w+1+1) (by omega) (by omega) (by rw[show nd-w+1+1=nd-w+2 from rfl,q 2];omega),
   fb_set hlo (j:=nd-w+1+1+1) (by omega) (by omega) (by rw[show nd-w+1+1+1=nd-w+3 from rfl,q 3];omega),wrapI (by omega) (by omega),show(w:Int)-4=((w-4:Nat):Int) by omega]
  exact hT
 ·have hT:=T2_ok hl ho (w:=w) (by omega) hwn hv k
  generalize hvv:u/10^(nd-w)=v at*
  dsimp only
  rw[dF (by omega),cond_false,w32 (by omega)]
  exact hT
end
def smlTab:Bool:=(List.range 100).all fun n=>(cond (decide (n<10)) (ByteArray.extract strC1 n (n+1)) (ByteArray.extract strC2 (n*2) (n*2+2))).data.toList==(bytesS (decL n)).data.toList
theorem sml_ok{n:Nat}(h:n<100):cond (decide (n<10)) (ByteArray.extract strC1 n (n+1)) (ByteArray.extract strC2 (n*2) (n*2+2))=bytesS (decL n):=by
 have h0:smlTab=true:=by kernel_rfl
 have h1:=(List.all_eq_true.1 h0) n (List.mem_range.2 h)
 exact bytes_ext (by simpa using h1)
theorem strC1_size:strC1.size=36:=by kernel_rfl
section
variable {α:Type}
theorem small_ok(m:Nat){n:Nat}(h:n<100)(k:ByteArray→Option α):g164 m (n:Int) k=k (bytesS (decL n)):=by
 rw[g164_o]
 dsimp only
 have:=sml_ok h
 have s1:=strC1_size
 have s2:=strC2_size
 by_cases h1:n<10
 ·rw[dT h1,cond_true] at this
  rw[dT (by omega),cond_true,wrapI (by omega) (by omega),if_pos (by omega),show Int.toNat (n:Int)=n by omega,show Int.toNat ((n:Int)+1)=n+1 by omega,this]
 ·rw[dF h1,cond_false] at this
  rw[dF (by omega),cond_false,wrapI (x:=(n:Int)*2) (by omega) (by omega),wrapI (by omega) (by omega),if_pos (by omega),show Int.toNat ((n:Int)*2)=n*2 by omega,show Int.toNat ((n:Int)*2+2)=n*2+2 by omega,this]
theorem fb_all{n nd:Nat}(h:nd≤23):List.take nd (List.drop 1 (fb (List.replicate 24 0) 1 nd n nd))=padL nd n:=by
 unfold fb
 rw[show 1+nd-nd=1 by omega]
 show List.take nd (padL nd n++List.drop (1+nd) (List.replicate 24 0))=_
 rw[List.take_append_of_le_length (by rw[padL_length];omega),List.take_of_length_le (by rw[padL_length];omega)]
theorem ndig20{n:Nat}(h:n<18446744073709551616):ndig n≤20:=ndig_le (by decide) (by omega)
theorem fmtPos(m:Nat)(hm:4≤m){n:Nat}(hn:n<9223372036854775808)(k:ByteArray→Option α):g125 m (n:Int) 10 k=k (bytesS (decL n)):=by
 have hd:=ndig20 (n:=n) (by omega)
 have hlt:=(ndig_spec n n (Nat.le_refl _)).1
 rw[g125_o,show((10:Int)==10)=true from rfl,cond_true,dT (by omega),cond_true]
 by_cases h1:n<100
 ·rw[dT (by omega),cond_true,small_ok m h1]
 ·rw[dF (by omega),cond_false]
  dsimp only
  rw[wU64 (by omega),dF (by omega),cond_false,numDig m (by omega) (by omega),wrapI (by omega) (by omega),if_pos (by omega),show Int.toNat ((1:Int)+(ndig n:Nat))-1=ndig n by omega,fBase (by simp) (by omega) hlt (by omega) m hm,cond_false,if_pos (by omega),if_pos (by omega),fb_all (by omega)];rfl
theorem itoaPos(m:Nat)(hm:4≤m){n:Nat}(hn:n<9223372036854775808)(k:ByteArray→Option α):g39 m (n:Int) k=k (bytesS (decL n)):=by
 rw[g39_o,g83_o,fmtPos m hm hn]
theorem rep0(m:Nat)(k:ByteArray→Option α):g66 m (⟨#[48]⟩:ByteArray) 0 k=k (bytesS []):=by kernel_rfl
theorem rep1(m:Nat)(k:ByteArray→Option α):g66 m (⟨#[48]⟩:ByteArray) 1 k=k (bytesS [48]):=by kernel_rfl
theorem rep2(m:Nat)(k:ByteArray→Option α):g66 m (⟨#[48]⟩:ByteArray) 2 k=k (bytesS [48,48]):=by kernel_rfl
theorem rep3(m:Nat)(k:ByteArray→Option α):g66 m (⟨#[48]⟩:ByteArray) 3 k=k (bytesS [48,48,48]):=by kernel_rfl
theorem rep4(m:Nat)(k:ByteArray→Option α):g66 m (⟨#[48]⟩:ByteArray) 4 k=k (bytesS [48,48,48,48]):=by kernel_rfl
theorem rep5(m:Nat)(k:ByteArray→Option α):g66 m (⟨#[48]⟩:ByteArray) 5 k=k (bytesS [48,48,48,48,48]):=by kernel_rfl
theorem rep6(m:Nat)(k:ByteArray→Option α):g66 m (⟨#[48]⟩:ByteArray) 6 k=k (bytesS [48,48,48,48,48,48]):=by kernel_rfl
theorem rep7(m:Nat)(k:ByteArray→Option α):g66 m (⟨#[48]⟩:ByteArray) 7 k=k (bytesS [48,48,48,48,48,48,48]):=by kernel_rfl
theorem rep8(m:Nat)(k:ByteArray→Option α):g66 m (⟨#[48]⟩:ByteArray) 8 k=k (bytesS [48,48,48,48,48,48,48,48]):=by kernel_rfl
theorem repZ(m c:Nat)(h:c≤8)(k:ByteArray→Option α):g66 m (⟨#[48]⟩:ByteArray) (c:Int) k=k (bytesS (List.replicate c 48)):=by
 match c,h with
 |0,_=>exact rep0 m k
 |1,_=>exact rep1 m k
 |2,_=>exact rep2 m k
 |3,_=>exact rep3 m k
 |4,_=>exact rep4 m k
 |5,_=>exact rep5 m k
 |6,_=>exact rep6 m k
 |7,_=>exact rep7 m k
 |8,_=>exact rep8 m k
 |c+9,h=>exact absurd h (by omega)
theorem chunk{a:Nat}(h:1000000000≤a):decL a=decL (a/1000000000)++padL 9 (a%1000000000):=by
 have:=decL_split (n:=a) (j:=9) (by omega)
 rw[this,←padL_mod 9 a]
theorem implTxtS(m:Nat)(hm:300≤m)(q:Bool)(u:List Int)(k:ByteArray→Option α)(F a:Nat)(z:List Int)(ha:a<W192)(hz:z.length≤100000):
  g64l0 (g104 m) (g39 m) (g66 m) q u k (F+1) (bytesS z) (limbs 6 a)=if a/1000000000=0 then k (bytesS (decL a++z)) else g64l0 (g104 m) (g39 m) (g66 m) q u k F (bytesS (padL 9 (a%1000000000)++z)) (limbs 6 (a/1000000000)):=by
 obtain⟨n,rfl⟩:∃n,m=n+7:=⟨m-7,by omega⟩
 have hr:a%1000000000<1000000000:=Nat.mod_lt _ (by decide)
 have hr9:=ndig_le (n:=a%1000000000) (k:=9) (by decide) (by omega)
 have hr1:=(ndig_spec (a%1000000000) (a%1000000000) (Nat.le_refl _)).2.2
 have hlr:(bytesS (decL (a%1000000000))).size=ndig (a%1000000000):=by rw[bytesS_len,decL_len]
 have hlz:(bytesS z).size=z.length:=bytesS_len z
 rw[g64l0_s,show(1000000000:Int)=((1000000000:Nat):Int) from rfl,g104L n ha (by decide) (by decide),wrapI (by omega) (by omega),itoaPos _ (by omega) (by omega),eqLI_zero (Nat.lt_of_le_of_lt (Nat.div_le_self _ _) ha)]
 by_cases h0:a/1000000000=0
 ·rw[if_pos h0,dT h0,cond_true,if_pos (by omega),←bytesS_app,Nat.mod_eq_of_lt (by omega)]
 ·rw[if_neg h0,dF h0,cond_false,hlr,wrapI (by omega) (by omega),show(9:Int)-((ndig (a%1000000000):Nat):Int)=((9-ndig (a%1000000000):Nat):Int) by omega,repZ _ _ (by omega)]
  have hls:(bytesS (List.replicate (9-ndig (a%1000000000)) 48)).size=9-ndig (a%1000000000):=by rw[bytesS_len,List.length_replicate]
  rw[if_pos (by omega)]
  dsimp only
  rw[←bytesS_app,←padL_dec hr9,if_pos (by rw[bytesS_len,padL_length];omega),←bytesS_app]
theorem implTxt(m:Nat)(hm:300≤m)(q:Bool)(u:List Int)(k:ByteArray→Option α):∀(d F a:Nat) (z:List Int),d<F→a<W192→a<1000000000^(d+1)→z.length+9*(d+1)≤100000→
  g64l0 (g104 m) (g39 m) (g66 m) q u k F (bytesS z) (limbs 6 a)=k (bytesS (decL a++z))
 |0,F,a,z,hd,ha,hF,hz=>by
  obtain⟨F,rfl⟩:∃n,F=n+1:=⟨F-1,by omega⟩
  rw[implTxtS m hm q u k F a z ha (by omega),if_pos (Nat.div_eq_of_lt hF)]
 |d+1,F,a,z,hd,ha,hF,hz=>by
  obtain⟨F,rfl⟩:∃n,F=n+1:=⟨F-1,by omega⟩
  rw[implTxtS m hm q u k F a z ha (by omega)]
  by_cases h0:a/1000000000=0
  ·rw[if_pos h0]
  ·rw[if_neg h0,implTxt m hm q u k d F (a/1000000000) (padL 9 (a%1000000000)++z) (by omega) (Nat.lt_of_le_of_lt (Nat.div_le_self _ _) ha) (by
     rw[Nat.pow_succ] at hF
     exact(Nat.div_lt_iff_lt_mul (by decide)).2 hF) (by rw[List.length_append,padL_length];omega),←List.append_assoc,←chunk (by omega)]
theorem padLoop(m:Nat)(z:ByteArray)(q:Bool)(a b c d:List Int)(k:ByteArray→Option α):∀(e F:Nat) (s:List Int),s.length+e=9→e<F→
  g112l2 z q a b c d k F (bytesS s)=k (bytesS (List.replicate e 48++s))
 |0,F,s,h,hF=>by
  obtain⟨F,rfl⟩:∃n,F=n+1:=⟨F-1,by omega⟩
  have hl:=bytesS_len s
  rw[g112l2_s,dF (by omega),cond_false];rfl
 |e+1,F,s,h,hF=>by
  obtain⟨F,rfl⟩:∃n,F=n+1:=⟨F-1,by omega⟩
  have hl:=bytesS_len s
  rw[g112l2_s,dT (by omega),cond_true]
  show(if(bytesS [48]).size+_≤_ then g112l2 z q a b c d k F (bytesS [48]++bytesS s) else none)=_
  rw[if_pos (by rw[bytesS_len [48]];simp only[List.length_singleton];omega),←bytesS_app,padLoop m z q a b c d k e F ([48]++s) (by simp only[List.length_append,List.length_singleton];omega) (by omega),List.replicate_succ',List.append_assoc]
theorem specTxtS(m:Nat)(hm:300≤m)(q:Bool)(u:List Int)(k:ByteArray→Option α)(F a:Nat)(z:List Int)(ha:a<W192)(hz:z.length≤100000):
  g112l0 (g155 m) (g156 m) (g157 m) (g112l2M m) q u [(1000000000:Int),0,0,0,0,0] k (F+1) (bytesS z) (limbs 6 a)=if a/1000000000=0 then k (bytesS (decL a++z)) else g112l0 (g155 m) (g156 m) (g157 m) (g112l2M m) q u [(1000000000:Int),0,0,0,0,0] k F (bytesS (padL 9 (a%1000000000)++z)) (limbs 6 (a/1000000000)):=by
 have hr:a%1000000000<1000000000:=Nat.mod_lt _ (by decide)
 have hr9:=ndig_le (n:=a%1000000000) (k:=9) (by decide) (by omega)
 have hlr:(bytesS (decL (a%1000000000))).size=ndig (a%1000000000):=by rw[bytesS_len,decL_len]
 have hlz:(bytesS z).size=z.length:=bytesS_len z
 obtain⟨f,rfl⟩:∃f,m=f+1:=⟨m-1,by omega⟩
 have e0:List.getD (limbs 6 (a%1000000000)) 0 0=((a%1000000000:Nat):Int):=by
  rw[limbs_getD 6 _ 0 (by decide)]
  have:dv 0 (a%1000000000)=a%1000000000:=by simp[dv]
  rw[this,Nat.mod_eq_of_lt (by omega)]
 have hf:a%1000000000<10^(f+1):=by
  have:=Nat.pow_le_pow_right (show 0<10 by decide) (show 9≤f+1 by omega)
  omega
 rw[g112l0_s,show([(1000000000:Int),0,0,0,0,0]:List Int)=limbs 6 1000000000 from rfl,g155M (by omega) ha (by decide) (by decide),e0,wrapI (by omega) (by omega),specDecimal f _ (by omega) hf,g157L _ (Nat.lt_of_le_of_lt (Nat.div_le_self _ _) ha)]
 by_cases h0:a/1000000000=0
 ·rw[if_pos h0,dT h0,cond_true,if_pos (by omega),←bytesS_app,Nat.mod_eq_of_lt (by omega)]
 ·rw[if_neg h0,dF h0,cond_false,padLoop (f+1) _ _ _ _ _ _ _ (9-ndig (a%1000000000)) (f+1) _ (by rw[decL_len];omega) (by omega),←padL_dec hr9,if_pos (by rw[bytesS_len,padL_length];omega),←bytesS_app]
theorem specTxt(m:Nat)(hm:300≤m)(q:Bool)(u:List Int)(k:ByteArray→Option α):∀(d F a:Nat) (z:List Int),d<F→a<W192→a<1000000000^(d+1)→z.length+9*(d+1)≤100000→
  g112l0 (g155 m) (g156 m) (g157 m) (g112l2M m) q u [(1000000000:Int),0,0,0,0,0] k F (bytesS z) (limbs 6 a)=k (bytesS (decL a++z))
 |0,F,a,z,hd,ha,hF,hz=>by
  obtain⟨F,rfl⟩:∃n,F=n+1:=⟨F-1,by omega⟩
  rw[specTxtS m hm q u k F a z ha (by omega),if_pos (Nat.div_eq_of_lt hF)]
 |d+1,F,a,z,hd,ha,hF,hz=>by
  obtain⟨F,rfl⟩:∃n,F=n+1:=⟨F-1,by omega⟩
  rw[specTxtS m hm q u k F a z ha (by omega)]
  by_cases h0:a/1000000000=0
  ·rw[if_pos h0]
  ·rw[if_neg h0,specTxt m hm q u k d F (a/1000000000) (padL 9 (a%1000000000)++z) (by omega) (Nat.lt_of_le_of_lt (Nat.div_le_self _ _) ha) (by
     rw[Nat.pow_succ] at hF
     exact(Nat.div_lt_iff_lt_mul (by decide)).2 hF) (by rw[List.length_append,padL_length];omega),←List.append_assoc,←chunk (by omega)]
def txtZ(z:Int):ByteArray:=bytesS (cond (zs z) (45::decL z.natAbs) (decL z.natAbs))
theorem w192_9:W192<1000000000^(8+1):=by decide
theorem ndigW{a:Nat}(h:a<W192):ndig a≤81:=ndig_le (by decide) (Nat.lt_of_lt_of_le h (by decide))
theorem sgnTxt(q:Bool)(a:Nat)(h:a<W192)(k:ByteArray→Option α):cond q (if(⟨#[45]⟩:ByteArray).size+(bytesS (decL a)).size≤9223372036854775807 then k ((⟨#[45]⟩:ByteArray)++bytesS (decL a)) else none) (k (bytesS (decL a)))=k (bytesS (cond q (45::decL a) (decL a))):=by
 cases q with
 |false=>rfl
 |true=>
  have hl:=bytesS_len (decL a)
  have:=ndigW h
  rw[decL_len] at hl
  show(if(bytesS [45]).size+_≤_ then k (bytesS [45]++bytesS (decL a)) else none)=k (bytesS (45::decL a))
  rw[if_pos (by rw[bytesS_len [45]];simp only[List.length_singleton];omega),←bytesS_app];rfl
theorem implWideText(m:Nat)(hm:300≤m){z:Int}(hz:z.natAbs<W192)(k:ByteArray→Option α):g64 m (zs z) (zl z) k=k (txtZ z):=by
 rw[g64_o,g103Z m hz,Bool.not_true,cond_false]
 refine(implTxt m hm (zs z) (zl z) _ 8 m z.natAbs [] (by omega) hz (Nat.lt_trans hz w192_9) (by decide)).trans ?_
 rw[List.append_nil]
 exact sgnTxt (zs z) _ hz k
theorem specText(m:Nat)(hm:300≤m){z:Int}(hz:z.natAbs<W192)(k:ByteArray→Option α):g112 m (zs z) (zl z) k=k (txtZ z):=by
 rw[g112_o]
 refine(specTxt m hm (zs z) (zl z) _ 8 m z.natAbs [] (by omega) hz (Nat.lt_trans hz w192_9) (by decide)).trans ?_
 rw[List.append_nil]
 exact sgnTxt (zs z) _ hz k
end
end Go.Proofs.YtlmmgjngihlpeaaGreatDoor.Sx
