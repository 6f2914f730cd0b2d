import Derived.Test.YtlmmgjngihlpeaaDoorTxtE
import Derived.Test.YtlmmgjngihlpeaaDoorZedD
namespace Go.Proofs.YtlmmgjngihlpeaaDoor.Sx
open Go
set_option linter.unusedVariables false
set_option linter.unusedSimpArgs false
set_option maxRecDepth 100000
section
variable {α:Type}
theorem bytesEq_sameG(s:ByteArray):bytesEq s s=true:=by unfold bytesEq;exact beq_self_eq_true _
theorem byteAt_S{l:List Int}{i:Nat}(hb:0≤List.getD l i 0∧List.getD l i 0<256):byteAt (bytesS l) i=List.getD l i 0:=by
 unfold byteAt
 rw[bytesS_data]
 by_cases h:i<l.length
 ·have e:(l.map fun n=>UInt8.ofNat n.toNat).getD i 0=UInt8.ofNat (List.getD l i 0).toNat:=by simp[List.getD,h]
  rw[e]
  generalize List.getD l i 0=x at*
  obtain⟨n,rfl⟩:∃n:Nat,x=n:=⟨x.toNat,by omega⟩
  rw[Int.toNat_natCast]
  have:(UInt8.ofNat n).toNat=n:=by
   rw[UInt8.toNat_ofNat'];omega
  rw[this]
 ·have h':l.length≤i:=by omega
  simp[List.getD,List.getElem?_eq_none h']
theorem padL_getD:∀(k n i:Nat),i<k→List.getD (padL k n) i 0=48+((n/10^(k-1-i)%10:Nat):Int)
 |0,n,i,h=>by omega
 |k+1,n,0,h=>by rw[padL_cons];rfl
 |k+1,n,i+1,h=>by
  rw[padL_cons]
  have:=padL_getD k n i (by omega)
  rw[show k+1-1-(i+1)=k-1-i by omega]
  exact this
theorem decL_byte{a i:Nat}(h:i<ndig a):byteAt (bytesS (decL a)) i=48+((a/10^(ndig a-1-i)%10:Nat):Int):=by
 have e:=padL_getD (ndig a) a i h
 have:=Nat.mod_lt (a/10^(ndig a-1-i)) (show 0<10 by omega)
 rw[byteAt_S (by unfold decL;rw[e];omega)]
 exact e
theorem ext_S(l:List Int)(i j:Nat):ByteArray.extract (bytesS l) i j=bytesS ((l.drop i).take (j-i)):=by
 apply bytes_ext
 rw[ByteArray.data_extract,Array.toList_extract,bytesS_data,bytesS_data]
 simp[List.extract_eq_take_drop,List.map_take,List.map_drop]
theorem decL_cons(a:Nat):decL a=(48+((a/10^(ndig a-1)%10:Nat):Int))::padL (ndig a-1) a:=by
 have h1:=(ndig_spec a a (Nat.le_refl _)).2.2
 unfold decL
 obtain⟨k,hk⟩:∃k,ndig a=k+1:=⟨ndig a-1,by omega⟩
 rw[hk,padL_cons];rfl
theorem pre_neg(m:Nat)(l:List Int)(hl:l.length<1000000)(k:ByteArray→Option α):g54 m (bytesS (45::l)) (⟨#[45]⟩:ByteArray) k=k (bytesS l):=by
 have hs:=bytesS_len (45::l)
 rw[List.length_cons] at hs
 have h1:(⟨#[45]⟩:ByteArray).size=1:=rfl
 rw[g54_o,g93_o,g118_o,h1,hs,dT (by omega),cond_true,if_pos (by omega),if_pos (by omega)]
 have e:bytesEq (ByteArray.extract (bytesS (45::l)) 0 (Int.toNat ((1:Nat):Int))) (⟨#[45]⟩:ByteArray)=true:=by
  rw[Int.toNat_natCast,ext_S];exact bytesEq_sameG _
 rw[e,cond_true,Int.toNat_natCast,Int.toNat_natCast,ext_S]
 congr 2
 rw[List.drop_succ_cons,List.drop_zero,List.take_of_length_le (by omega)]
theorem pre_pos(m:Nat){x:Int}(l:List Int)(hl:l.length<1000000)(hx:48≤x∧x≤57)(k:ByteArray→Option α):g54 m (bytesS (x::l)) (⟨#[45]⟩:ByteArray) k=k (bytesS (x::l)):=by
 have hs:=bytesS_len (x::l)
 rw[List.length_cons] at hs
 have h1:(⟨#[45]⟩:ByteArray).size=1:=rfl
 rw[g54_o,g93_o,g118_o,h1,hs,dT (by omega),cond_true,if_pos (by omega)]
 have e:bytesEq (ByteArray.extract (bytesS (x::l)) 0 (Int.toNat ((1:Nat):Int))) (⟨#[45]⟩:ByteArray)=false:=by
  rw[Int.toNat_natCast]
  have hd:(bytesS (x::l)).data.toList=UInt8.ofNat x.toNat::l.map fun n=>UInt8.ofNat n.toNat:=by rw[bytesS_data];rfl
  rw[prefix_text hd]
  refine decide_eq_false fun h=> ?_
  have:=congrArg UInt8.toNat h
  rw[UInt8.toNat_ofNat'] at this
  have h45:(45:UInt8).toNat=45:=rfl
  omega
 rw[e,cond_false]
theorem itLoop{D:ByteArray}(hn:D.size<1000000)(kF kT:Option α)(hd:∀j,j<D.size→48≤byteAt D j∧byteAt D j≤57):∀(d i f:Nat),i+d=D.size→d<f→
  g53l0 D kF kT f (i:Int)=kT
 |0,i,f,h,hf=>by
  obtain⟨f,rfl⟩:∃g,f=g+1:=⟨f-1,by omega⟩
  rw[g53l0_s,dF (by omega),cond_false]
 |d+1,i,f,h,hf=>by
  obtain⟨f,rfl⟩:∃g,f=g+1:=⟨f-1,by omega⟩
  have hj:=hd i (by omega)
  rw[g53l0_s,dT (by omega),cond_true,if_pos (by omega),Int.toNat_natCast,dF (by omega),cond_false,if_pos (by omega),dF (by omega),cond_false,wrapS (by omega)]
  exact itLoop hn kF kT hd d (i+1) f (by omega) (by omega)
theorem itText(m:Nat)(hm:300≤m){z:Int}(hz:z.natAbs<W192)(k:Bool→Option α)(T:ByteArray→Option α) (hT:T=fun s=>cond (bytesEq s (⟨#[]⟩:ByteArray)) (k false) (if 0≤(0:Int)∧(0:Int)<s.size then
   cond ((byteAt s (0:Int).toNat)==(48:Int)) (cond (!bytesEq (txtZ z) (⟨#[48]⟩:ByteArray)) (k false) (g53l0 s (k false) (k true) m (0:Int))) (g53l0 s (k false) (k true) m (0:Int)) else none)):
  T (bytesS (decL z.natAbs))=k true:=by
 have hn:=ndigW hz
 have hl:=bytesS_len (decL z.natAbs)
 rw[decL_len] at hl
 obtain⟨s1,s2,s3⟩:=ndig_spec z.natAbs z.natAbs (Nat.le_refl _)
 have hlp:=itLoop (D:=bytesS (decL z.natAbs)) (by omega) (k false) (k true) (fun j hj=>by
  rw[decL_byte (by omega)]
  have:=Nat.mod_lt (z.natAbs/10^(ndig z.natAbs-1-j)) (show 0<10 by omega)
  omega) (ndig z.natAbs) 0 m (by omega) (by omega)
 have hlp':g53l0 (bytesS (decL z.natAbs)) (k false) (k true) m (0:Int)=k true:=hlp
 rw[hT]
 show cond (bytesEq (bytesS (decL z.natAbs)) _) _ _=_
 rw[bytesEq_nil,dF (by omega),cond_false,if_pos (by omega),hlp',show(0:Int).toNat=0 from rfl,decL_byte (by omega)]
 by_cases h0:z.natAbs=0
 ·have hz0:z=0:=by omega
  subst hz0
  have:bytesEq (txtZ 0) (⟨#[48]⟩:ByteArray)=true:=by
   show bytesEq (bytesS [48]) (bytesS [48])=true
   exact bytesEq_sameG _
  rw[this]
  cases((48:Int)+_==48)<;>rfl
 ·have hp:=s2 (by omega)
  have hq:1≤z.natAbs/10^(ndig z.natAbs-1):=(Nat.le_div_iff_mul_le (Nat.pos_of_ne_zero (by simp))).2 (by omega)
  have hq2:z.natAbs/10^(ndig z.natAbs-1)<10:=by
   rw[Nat.div_lt_iff_lt_mul (Nat.pos_of_ne_zero (by simp))]
   have:10*10^(ndig z.natAbs-1)=10^ndig z.natAbs:=by
    rw[Nat.mul_comm,←Nat.pow_succ];congr 1;omega
   omega
  have:((48:Int)+((z.natAbs/10^(ndig z.natAbs-1-0)%10:Nat):Int)==48)=false:=by
   rw[Nat.sub_zero,Nat.mod_eq_of_lt hq2]
   exact dF (p:=(48:Int)+((z.natAbs/10^(ndig z.natAbs-1):Nat):Int)=48) (by omega)
  rw[this,cond_false]
theorem rwLoop(m n:Nat){a nn:Nat}(ha:a<W192)(Z:ByteArray){D:ByteArray}(hs:D.size=nn)(hn:nn<1000000)(hd:∀j,j<nn→byteAt D j=48+((a/10^(nn-1-j)%10:Nat):Int))(c:Bool)(u:List Int)(k:Bool→Bool→List Int→Option α):∀(e f:Nat),e≤nn→e<f→
  g17l0 (g32 (n+7)) (g56 (n+7)) (g55 (n+7)) Z D c u k f ((nn-e:Nat):Int) false (zs ((a/10^e:Nat):Int)) (zl ((a/10^e:Nat):Int))=k false (zs (a:Int)) (zl (a:Int))
 |0,f,h,hf=>by
  obtain⟨f,rfl⟩:∃g,f=g+1:=⟨f-1,by omega⟩
  rw[g17l0_s,dF (by omega),cond_false,Nat.pow_zero,Nat.div_one]
 |e+1,f,h,hf=>by
  obtain⟨f,rfl⟩:∃g,f=g+1:=⟨f-1,by omega⟩
  have ih:=rwLoop m n ha Z hs hn hd c u k e f (by omega) (by omega)
  have hb:=hd (nn-(e+1)) (by omega)
  rw[show nn-1-(nn-(e+1))=e by omega] at hb
  have hB:a/10^(e+1)=a/10^e/10:=by rw[Nat.pow_succ,Nat.div_div_eq_div_mul]
  have hle:a/10^e≤a:=Nat.div_le_self _ _
  rw[hB]
  rw[show((nn-e:Nat):Int)=((nn-(e+1)+1:Nat):Int) by omega] at ih
  generalize a/10^e=B at*
  have hd10:=Nat.mod_lt B (show 0<10 by omega)
  have hx:(((B/10:Nat):Int)).natAbs<W192:=by rw[Int.natAbs_natCast];omega
  have h10:(10:Int).natAbs<W192:=by decide
  have hxm:(((B/10:Nat):Int)*10).natAbs<W192:=by omega
  have hdg:((B%10:Nat):Int).natAbs<W192:=by rw[Int.natAbs_natCast];omega
  have hsum:((B/10:Nat):Int)*10+((B%10:Nat):Int)=(B:Int):=by omega
  have hBW:(B:Int).natAbs<W192:=by rw[Int.natAbs_natCast];omega
  rw[g17l0_s,dT (by omega),cond_true,Bool.not_false,cond_true,g32Z _ (by omega) (by omega),g56Z hx h10,fitZ_iff.2 hxm,cond_true,if_pos (by omega),Int.toNat_natCast,hb,
   wrapB (by omega) (by omega),wrapI (by omega) (by omega),show(48:Int)+((B%10:Nat):Int)-48=((B%10:Nat):Int) by omega,g32Z _ (by omega) (by omega),g55Z hxm hdg,hsum,zt_of hBW,fitZ_iff.2 hBW,wrapS (by omega)]
  exact ih
theorem readBack(n:Nat)(hm:300≤n+7){z:Int}(hz:z.natAbs<W192)(k:Bool→List Int→Int→Option α):g17 (n+7) (txtZ z) k=k (zs z) (zl z) 0:=by
 have hn:=ndigW hz
 have hl:=bytesS_len (decL z.natAbs)
 rw[decL_len] at hl
 have hll:=decL_len z.natAbs
 obtain⟨s1,s2,s3⟩:=ndig_spec z.natAbs z.natAbs (Nat.le_refl _)
 have hpre:∀(k:ByteArray→Option α),g54 (n+7) (txtZ z) (⟨#[45]⟩:ByteArray) k=k (bytesS (decL z.natAbs)):=by
  intro k
  unfold txtZ
  cases zs z with
  |true=>exact pre_neg _ _ (by omega) k
  |false=>
   rw[cond_false,decL_cons]
   have:=Nat.mod_lt (z.natAbs/10^(ndig z.natAbs-1)) (show 0<10 by omega)
   exact pre_pos _ _ (by rw[padL_length];omega) (by omega) k
 have hsz:0<(txtZ z).size∧(byteAt (txtZ z) 0==45)=zs z:=by
  unfold txtZ
  cases zs z with
  |true=>exact⟨by rw[cond_true,bytesS_len,List.length_cons];omega,by rw[cond_true,byteAt_S (by show(0:Int)≤45∧(45:Int)<256;decide)];rfl⟩
  |false=>
   refine⟨by rw[cond_false];omega, ?_⟩
   rw[cond_false,decL_byte (by omega)]
   simp;omega
 rw[g17_o,g53_o,hpre,itText (n+7) (by omega) hz (fun b=>cond (!b) _ _) _ rfl,Bool.not_true,cond_false,hpre]
 have h0:z.natAbs/10^ndig z.natAbs=0:=Nat.div_eq_of_lt s1
 have hlp:=rwLoop (α:=α) (n+7) n hz (txtZ z) hl (by omega) (fun j hj=>decL_byte hj) false [0,0,0,0,0,0]
  (fun b2140 b2141 l2142=>
    if 0≤(0:Int)∧(0:Int)<(txtZ z).size then
    g57 (n+7) ((byteAt (txtZ z) (0:Int).toNat)==(45:Int)) l2142 b2140 (fun b2149 l2150 x2151=>k b2149 l2150 x2151)
    else none) (ndig z.natAbs) (n+7) (Nat.le_refl _) (by omega)
 rw[h0,Nat.sub_self] at hlp
 refine Eq.trans ?_ (hlp.trans ?_)
 ·rfl
 ·rw[if_pos ⟨by omega,by omega⟩,show(0:Int).toNat=0 from rfl,hsz.2,g57_o,cond_false]
  rfl
end
def Byt(u:List Int):Prop:=∀x∈u,0≤x∧x≤255
theorem byt_at{u:List Int}(h:Byt u)(i:Nat):0≤List.getD u i 0∧List.getD u i 0≤255:=by
 by_cases hi:i<u.length
 ·rw[getD_at u 0 hi];exact h _ (List.getElem_mem hi)
 ·rw[List.getD_eq_getElem?_getD,List.getElem?_eq_none (by omega)];decide
theorem lit_u8{x:Int}(h:(Lit.int .u8 x).wf=true):0≤x∧x≤255:=by
 have:decide (IntKind.u8.min≤x∧x≤IntKind.u8.max)=true:=by simpa[Lit.wf] using h
 simpa[IntKind.min,IntKind.max,IntKind.bits,IntKind.signed] using this
theorem and255(x:Nat):ibits .and .u64 (x:Int) 255=((x%18446744073709551616%256:Nat):Int):=by
 have hx:∀y:Nat,y<256→IntKind.wrap .u64 (y:Int)=(y:Int):=fun y hy=>by rw[wrapU64N,Nat.mod_eq_of_lt (by omega)]
 show IntKind.wrap .u64 ((BitVec.ofInt 64 (x:Int)&&&BitVec.ofInt 64 ((255:Nat):Int)).toNat:Int)=_
 have e:∀y:Nat,y&&&255=y%256:=fun y=>Nat.and_two_pow_sub_one_eq_mod y 8
 rw[BitVec.toNat_and,ofInt_nat,ofInt_nat,Nat.mod_eq_of_lt (show 255<2^64 by decide),e,hx _ (Nat.mod_lt _ (by decide))]
theorem wrapU64_nat(x:Int):∃y:Nat,IntKind.wrap .u64 x=(y:Int):=by
 have e:IntKind.wrap .u64 x=x%18446744073709551616:=by simp[IntKind.wrap,IntKind.bits,IntKind.signed]
 exact⟨(x%18446744073709551616).toNat,by rw[e];omega⟩
theorem low_byte(x:Int):∃y:Int,0≤y∧y≤255∧IntKind.wrap .i64 (ibits .and .u64 (Int.fdiv (IntKind.wrap .u64 x) (2^40)) 255)=y:=by
 obtain⟨y,hy⟩:=wrapU64_nat x
 rw[hy,show(2:Int)^40=((1099511627776:Nat):Int) from rfl,fdivNat,and255]
 generalize y/1099511627776%18446744073709551616=z
 have:z%256<256:=Nat.mod_lt _ (by decide)
 exact⟨((z%256:Nat):Int),by omega,by omega,by rw[wrapI64 (by omega) (by omega)]⟩
theorem next_res(m cap:Nat){u:List Int}(hu:Byt u){at':Nat}(ha:at'≤1000000000)(s:Int):∃x s':Int,0≤x∧x≤255∧
  ∀{α:Type} (k:Int→Int→Int→Option α),g102 m 0 u.length cap (at':Int) s u.length u k=k x ((at'+1:Nat):Int) s':=by
 by_cases h:at'<u.length
 ·obtain⟨b1,b2⟩:=byt_at hu at'
  obtain⟨y,y1,y2,y3⟩:=low_byte ((IntKind.wrap .u64 ((IntKind.wrap .u64 (s*6364136223846793005))+(IntKind.wrap .u64 (List.getD u at' 0))))+1442695040888963407)
  refine⟨List.getD u at' 0,IntKind.wrap .u64 ((IntKind.wrap .u64 ((IntKind.wrap .u64 (s*6364136223846793005))+(IntKind.wrap .u64 (List.getD u at' 0))))+1442695040888963407),b1,b2,fun{α} k=> ?_⟩
  rw[g102_o,dT (by omega),cond_true,if_pos (cast_lt h),Int.toNat_natCast,Nat.zero_add,if_pos h]
  dsimp only
  rw[wrapI (x:=List.getD u at' 0) (by omega) (by omega),wrapS (by omega),dT (by omega),cond_true]
 ·obtain⟨y,y1,y2,y3⟩:=low_byte ((IntKind.wrap .u64 ((IntKind.wrap .u64 (s*6364136223846793005))+0))+1442695040888963407)
  refine⟨y,IntKind.wrap .u64 ((IntKind.wrap .u64 ((IntKind.wrap .u64 (s*6364136223846793005))+0))+1442695040888963407),y1,y2,fun{α} k=> ?_⟩
  rw[g102_o,dF (by omega),cond_false]
  dsimp only
  rw[wrapS (by omega),dF (by omega),cond_false,y3]
theorem pick_res(m cap:Nat){u:List Int}(hu:Byt u){at':Nat}(ha:at'+2≤1000000000)(s n:Int)(hn:n≤1000000):∃(x s':Int) (b:Nat),0≤x∧(1<n→x<n)∧(n≤1→x=0)∧at'≤b∧b≤at'+2∧
  ∀{α:Type} (k:Int→Int→Int→Option α),g66 m n 0 u.length cap (at':Int) s u.length u k=k x (b:Int) s':=by
 by_cases h1:n≤1
 ·exact⟨0,s,at',by omega,fun h=>by omega,fun _=>rfl,by omega,by omega,fun{α} k=>by rw[g66_o,dT h1,cond_true]⟩
 ·obtain⟨x,s1,x1,x2,hx⟩:=next_res m cap hu (show at'≤1000000000 by omega) s
  by_cases h2:n>200
  ·obtain⟨y,s2,y1,y2,hy⟩:=next_res m cap hu (show at'+1≤1000000000 by omega) s1
   have e:IntKind.wrap .i64 (IntKind.wrap .i64 (x*256)+y)=x*256+y:=by rw[wrapI (x:=x*256) (by omega) (by omega),wrapI (by omega) (by omega)]
   refine⟨(x*256+y)%n,s2,at'+2,Int.emod_nonneg _ (by omega),fun h=>Int.emod_lt_of_pos _ (by omega),fun h=>by omega,by omega,by omega,fun{α} k=> ?_⟩
   rw[g66_o,dF h1,cond_false,hx,dT h2,cond_true,hy,e,if_neg (by omega),Int.tmod_eq_emod_of_nonneg (by omega)]
  ·refine⟨x%n,s1,at'+1,Int.emod_nonneg _ (by omega),fun h=>Int.emod_lt_of_pos _ (by omega),fun h=>by omega,by omega,by omega,fun{α} k=> ?_⟩
   rw[g66_o,dF h1,cond_false,hx,dF h2,cond_false,if_neg (by omega),Int.tmod_eq_emod_of_nonneg (by omega)]
theorem P6Pick_res(m cap:Nat){u:List Int}(hu:Byt u)(n:Int)(hn:n≤1000000):∃x:Int,0≤x∧(1<n→x<n)∧(n≤1→x=0)∧
  ∀{α:Type} (k:Int→Option α),g30 m 0 u.length cap n u.length u k=k x:=by
 obtain⟨x,s,b,h1,h2,h3,_,_,h⟩:=pick_res m cap hu (at':=0) (by omega) 0 n hn
 exact⟨x,h1,h2,h3,fun{α} k=>by rw[g30_o,g52_o];exact h _⟩
theorem u32_wrap(x:Int):∃y:Nat,y<4294967296∧IntKind.wrap .u32 x=(y:Int):=by
 have e:IntKind.wrap .u32 x=x%4294967296:=by simp[IntKind.wrap,IntKind.bits,IntKind.signed]
 exact⟨(x%4294967296).toNat,by omega,by rw[e];omega⟩
theorem u32_set{l:List Int}(h:U32 l)(i:Nat)(x:Int)(hx:∃y:Nat,y<4294967296∧x=(y:Int)):U32 (l.set i x):=by
 obtain⟨y,hy,rfl⟩:=hx
 intro z hz
 rcases List.mem_or_eq_of_mem_set hz with h'|h'
 ·exact h z h'
 ·rw[h'];exact wf_u32 hy
theorem drawn_loop(q cap:Nat){u:List Int}(hu:Byt u)(w:Int)(hw:w≤6)(c:Bool)(z:List Int):∀(d v m at':Nat) (s:Int) (l:List Int),v+d=6→d<m→at'+4*d+8≤1000000→l.length=6→U32 l→
  ∃(b:Nat) (s':Int) (l':List Int),b≤at'+4*d∧l'.length=6∧U32 l'∧∀{α:Type} (k:Int→Int→List Int→Option α),
   g51l0 (g66 q) w 0 u.length cap u.length u c z k m (v:Int) (at':Int) s l=k (b:Int) s' l':=by
 intro d
 induction d with
 |zero=>
  intro v m at' s l hv hm ha hl hL
  obtain⟨m,rfl⟩:∃n,m=n+1:=⟨m-1,by omega⟩
  exact⟨at',s,l,by omega,hl,hL,fun{α} k=>by rw[g51l0_s,dF (by omega),cond_false]⟩
 |succ d ih=>
  intro v m at' s l hv hm ha hl hL
  obtain⟨m,rfl⟩:∃n,m=n+1:=⟨m-1,by omega⟩
  by_cases hvw:(v:Int)<w
  ·have hv6:v<6:=by omega
   obtain⟨x,s1,b1,p1,p2,p3,p4,p5,hx⟩:=pick_res q cap hu (at':=at') (by omega) s 4 (by omega)
   by_cases x0:x=0
   ·obtain⟨y,s2,b2,q1,q2,q3,q4,q5,hy⟩:=pick_res q cap hu (at':=b1) (by omega) s1 60000 (by omega)
    obtain⟨b,s',l',r1,r2,r3,hr⟩:=ih (v+1) m b2 s2 (l.set v (IntKind.wrap .u32 ((IntKind.wrap .u32 y)*65521))) (by omega) (by omega) (by omega) (by rw[List.length_set];exact hl) (u32_set hL _ _ (u32_wrap _))
    refine⟨b,s',l',by omega,r2,r3,fun{α} k=> ?_⟩
    rw[g51l0_s,dT hvw,cond_true,hx,x0,beq_self_eq_true,cond_true,hy,if_pos (cast_lt hv6),Int.toNat_natCast,if_pos hv6,wrapS (by omega),hr]
   ·by_cases x1:x=1
    ·obtain⟨b,s',l',r1,r2,r3,hr⟩:=ih (v+1) m b1 s1 (l.set v 4294967295) (by omega) (by omega) (by omega) (by rw[List.length_set];exact hl) (u32_set hL _ _ ⟨4294967295,by omega,rfl⟩)
     refine⟨b,s',l',by omega,r2,r3,fun{α} k=> ?_⟩
     rw[g51l0_s,dT hvw,cond_true,hx,show(x==0)=false by simpa using x0,cond_false,x1,beq_self_eq_true,cond_true,if_pos (cast_lt hv6),Int.toNat_natCast,if_pos hv6,wrapS (by omega),hr]
    ·by_cases x2:x=2
     ·obtain⟨y,s2,b2,q1,q2,q3,q4,q5,hy⟩:=pick_res q cap hu (at':=b1) (by omega) s1 5 (by omega)
      obtain⟨b,s',l',r1,r2,r3,hr⟩:=ih (v+1) m b2 s2 (l.set v (IntKind.wrap .u32 y)) (by omega) (by omega) (by omega) (by rw[List.length_set];exact hl) (u32_set hL _ _ (u32_wrap _))
      refine⟨b,s',l',by omega,r2,r3,fun{α} k=> ?_⟩
      rw[g51l0_s,dT hvw,cond_true,hx,show(x==0)=false by simpa using x0,cond_false,show(x==1)=false by simpa using x1,cond_false,x2,beq_self_eq_true,cond_true,hy,if_pos (cast_lt hv6),Int.toNat_natCast,if_pos hv6,wrapS (by omega),hr]
     ·obtain⟨y,s2,b2,q1,q2,q3,q4,q5,hy⟩:=pick_res q cap hu (at':=b1) (by omega) s1 32 (by omega)
      have yw:IntKind.wrap .u64 y=y:=by
       have:=q2 (by omega)
       rw[wrapU64 q1 (by omega)]
      obtain⟨b,s',l',r1,r2,r3,hr⟩:=ih (v+1) m b2 s2 (l.set v (IntKind.wrap .u32 (1*2^(min y.toNat 32)))) (by omega) (by omega) (by omega) (by rw[List.length_set];exact hl) (u32_set hL _ _ (u32_wrap _))
      refine⟨b,s',l',by omega,r2,r3,fun{α} k=> ?_⟩
      rw[g51l0_s,dT hvw,cond_true,hx,show(x==0)=false by simpa using x0,cond_false,show(x==1)=false by simpa using x1,cond_false,show(x==2)=false by simpa using x2,cond_false,hy]
      dsimp only
      rw[yw,if_neg (by omega),if_pos (cast_lt hv6),Int.toNat_natCast,if_pos hv6,wrapS (by omega),hr]
  ·exact⟨at',s,l,by omega,hl,hL,fun{α} k=>by rw[g51l0_s,dF hvw,cond_false]⟩
theorem l01Drawn_res(m cap:Nat)(hm:7≤m){u:List Int}(hu:Byt u){at':Nat}(ha:at'+200≤1000000)(s:Int):∃(c:Bool) (a b:Nat) (s':Int),a<W192∧(!(c&&decide (a=0)))=true∧b≤at'+40∧
  ∀{α:Type} (k:Bool→List Int→Int→Int→Option α),g51 m 0 u.length cap (at':Int) s u.length u k=k c (limbs 6 a) (b:Int) s':=by
 obtain⟨x,s1,b1,p1,p2,p3,p4,p5,hx⟩:=pick_res m cap hu (at':=at') (by omega) s 7 (by omega)
 have hx6:=p2 (by omega)
 obtain⟨b,s',l,r1,r2,r3,hr⟩:=drawn_loop m cap hu x (by omega) false [0,0,0,0,0,0] 6 0 m b1 s1 [0,0,0,0,0,0] (by omega) (by omega) (by omega) rfl (limbs_u32 6 0)
 obtain⟨a,ha',rfl⟩:=limbs_ex r2 r3
 obtain⟨y,s2,b2,q1,q2,q3,q4,q5,hy⟩:=pick_res m cap hu (at':=b) (by omega) s' 3 (by omega)
 refine⟨(y==0)&& !(decide (a=0)),a,b2,s2,ha', ?_,by omega,fun{α} k=> ?_⟩
 ·cases(y==0)<;>by_cases h:a=0<;>simp[h]
 ·rw[g51_o,hx]
  refine(hr _).trans ?_
  rw[g92_o,hy,g64L m _ ha']
theorem P6Wide_res(m cap:Nat)(hm:7≤m){u:List Int}(hu:Byt u):∃z:Int,z.natAbs<W192∧∀{α:Type} (k:Bool→List Int→Option α),g16 m 0 u.length cap u.length u k=k (zs z) (zl z):=by
 obtain⟨c,a,b,s,ha,hv,_,h⟩:=l01Drawn_res m cap hm hu (at':=0) (by omega) 0
 obtain⟨z,hz,rfl,ez⟩:=zed_of ha hv
 refine⟨z,hz,fun{α} k=> ?_⟩
 rw[g16_o,g52_o,←ez]
 exact h _
theorem half_limbs{a:Nat}(ha:a<W192):[List.getD (limbs 6 a) 0 0,List.getD (limbs 6 a) 1 0,Int.fdiv (List.getD (limbs 6 a) 2 0) (2^6),0,0,0]=limbs 6 (a%18446744073709551616+18446744073709551616*(a/18446744073709551616%4294967296/64)):=by
 rw[limbs_getD 6 a 0 (by omega),limbs_getD 6 a 1 (by omega),limbs_getD 6 a 2 (by omega),show(2:Int)^6=((64:Nat):Int) from rfl,fdivNat]
 simp only[dv,limbs]
 have h1:a/18446744073709551616%4294967296/64<67108864:=by omega
 generalize hc:a/18446744073709551616%4294967296/64=c at*
 have e:a/4294967296/4294967296%4294967296/64=c:=by rw[Nat.div_div_eq_div_mul];exact hc
 rw[e]
 have z1:(a%18446744073709551616+18446744073709551616*c)%4294967296=a%4294967296:=by omega
 have z2:(a%18446744073709551616+18446744073709551616*c)/4294967296%4294967296=a/4294967296%4294967296:=by omega
 have z3:(a%18446744073709551616+18446744073709551616*c)/4294967296/4294967296=c:=by omega
 rw[z1,z2,z3,Nat.mod_eq_of_lt (show c<4294967296 by omega),Nat.div_eq_of_lt (show c<4294967296 by omega)]
 rfl
theorem P6Half_res(m cap:Nat)(hm:7≤m){u:List Int}(hu:Byt u):∃z:Int,z.natAbs<2^90∧∀{α:Type} (k:Bool→List Int→Option α),g26 m 0 u.length cap u.length u k=k (zs z) (zl z):=by
 obtain⟨c,a,b,s,ha,hv,_,h⟩:=l01Drawn_res m cap hm hu (at':=0) (by omega) 0
 have h90:(2:Nat)^90=18446744073709551616*67108864:=by decide
 have hW:18446744073709551616*67108864<W192:=by decide
 have hv':a%18446744073709551616+18446744073709551616*(a/18446744073709551616%4294967296/64)<18446744073709551616*67108864:=by omega
 generalize hA:a%18446744073709551616+18446744073709551616*(a/18446744073709551616%4294967296/64)=A at*
 refine⟨cond c (-(A:Int)) A, ?_,fun{α} k=> ?_⟩
 ·rw[h90];cases c<;>simp only[cond_true,cond_false,Int.natAbs_neg,Int.natAbs_natCast]<;>exact hv'
 ·rw[g26_o,g52_o]
  refine(h _).trans ?_
  dsimp only
  rw[half_limbs ha,hA,g64L m c (by omega),mk_zs,←mk_zl c A]
theorem next_resV(m:Nat){u:List Int}(hu:Byt u){at':Nat}(ha:at'≤1000000000)(s:Int):∃x s':Int,0≤x∧x≤255∧
  ∀{α:Type} (k:Int→Int→Int→Option α),g102v1 m (at':Int) s u k=k x ((at'+1:Nat):Int) s':=by
 by_cases h:at'<u.length
 ·obtain⟨b1,b2⟩:=byt_at hu at'
  obtain⟨y,y1,y2,y3⟩:=low_byte ((IntKind.wrap .u64 ((IntKind.wrap .u64 (s*6364136223846793005))+(IntKind.wrap .u64 (List.getD u at' 0))))+1442695040888963407)
  refine⟨List.getD u at' 0,IntKind.wrap .u64 ((IntKind.wrap .u64 ((IntKind.wrap .u64 (s*6364136223846793005))+(IntKind.wrap .u64 (List.getD u at' 0))))+1442695040888963407),b1,b2,fun{α} k=> ?_⟩
  rw[g102v1_o,dT (by omega),cond_true,if_pos (cast_lt h),Int.toNat_natCast,if_pos h]
  dsimp only
  rw[wrapI (x:=List.getD u at' 0) (by omega) (by omega),wrapS (by omega),dT (by omega),cond_true]
 ·obtain⟨y,y1,y2,y3⟩:=low_byte ((IntKind.wrap .u64 ((IntKind.wrap .u64 (s*6364136223846793005))+0))+1442695040888963407)
  refine⟨y,IntKind.wrap .u64 ((IntKind.wrap .u64 ((IntKind.wrap .u64 (s*6364136223846793005))+0))+1442695040888963407),y1,y2,fun{α} k=> ?_⟩
  rw[g102v1_o,dF (by omega),cond_false]
  dsimp only
  rw[wrapS (by omega),dF (by omega),cond_false,y3]
theorem pick_resV(m:Nat){u:List Int}(hu:Byt u){at':Nat}(ha:at'+2≤1000000000)(s n:Int)(hn:n≤1000000):∃(x s':Int) (b:Nat),0≤x∧(1<n→x<n)∧(n≤1→x=0)∧at'≤b∧b≤at'+2∧
  ∀{α:Type} (k:Int→Int→Int→Option α),g66v1 m n (at':Int) s u k=k x (b:Int) s':=by
 by_cases h1:n≤1
 ·exact⟨0,s,at',by omega,fun h=>by omega,fun _=>rfl,by omega,by omega,fun{α} k=>by rw[g66v1_o,dT h1,cond_true]⟩
 ·obtain⟨x,s1,x1,x2,hx⟩:=next_resV m hu (show at'≤1000000000 by omega) s
  by_cases h2:n>200
  ·obtain⟨y,s2,y1,y2,hy⟩:=next_resV m hu (show at'+1≤1000000000 by omega) s1
   have e:IntKind.wrap .i64 (IntKind.wrap .i64 (x*256)+y)=x*256+y:=by rw[wrapI (x:=x*256) (by omega) (by omega),wrapI (by omega) (by omega)]
   refine⟨(x*256+y)%n,s2,at'+2,Int.emod_nonneg _ (by omega),fun h=>Int.emod_lt_of_pos _ (by omega),fun h=>by omega,by omega,by omega,fun{α} k=> ?_⟩
   rw[g66v1_o,dF h1,cond_false,hx,dT h2,cond_true,hy,e,if_neg (by omega),Int.tmod_eq_emod_of_nonneg (by omega)]
  ·refine⟨x%n,s1,at'+1,Int.emod_nonneg _ (by omega),fun h=>Int.emod_lt_of_pos _ (by omega),fun h=>by omega,by omega,by omega,fun{α} k=> ?_⟩
   rw[g66v1_o,dF h1,cond_false,hx,dF h2,cond_false,if_neg (by omega),Int.tmod_eq_emod_of_nonneg (by omega)]
theorem drawn_loopV(q:Nat){u:List Int}(hu:Byt u)(w:Int)(hw:w≤6)(c:Bool)(z:List Int):∀(d v m at':Nat) (s:Int) (l:List Int),v+d=6→d<m→at'+4*d+8≤1000000→l.length=6→U32 l→
  ∃(b:Nat) (s':Int) (l':List Int),b≤at'+4*d∧l'.length=6∧U32 l'∧∀{α:Type} (k:Int→Int→List Int→Option α),
   g51v1l0 (g66v1 q) w u c z k m (v:Int) (at':Int) s l=k (b:Int) s' l':=by
 intro d
 induction d with
 |zero=>
  intro v m at' s l hv hm ha hl hL
  obtain⟨m,rfl⟩:∃n,m=n+1:=⟨m-1,by omega⟩
  exact⟨at',s,l,by omega,hl,hL,fun{α} k=>by rw[g51v1l0_s,dF (by omega),cond_false]⟩
 |succ d ih=>
  intro v m at' s l hv hm ha hl hL
  obtain⟨m,rfl⟩:∃n,m=n+1:=⟨m-1,by omega⟩
  by_cases hvw:(v:Int)<w
  ·have hv6:v<6:=by omega
   obtain⟨x,s1,b1,p1,p2,p3,p4,p5,hx⟩:=pick_resV q hu (at':=at') (by omega) s 4 (by omega)
   by_cases x0:x=0
   ·obtain⟨y,s2,b2,q1,q2,q3,q4,q5,hy⟩:=pick_resV q hu (at':=b1) (by omega) s1 60000 (by omega)
    obtain⟨b,s',l',r1,r2,r3,hr⟩:=ih (v+1) m b2 s2 (l.set v (IntKind.wrap .u32 ((IntKind.wrap .u32 y)*65521))) (by omega) (by omega) (by omega) (by rw[List.length_set];exact hl) (u32_set hL _ _ (u32_wrap _))
    refine⟨b,s',l',by omega,r2,r3,fun{α} k=> ?_⟩
    rw[g51v1l0_s,dT hvw,cond_true,hx,x0,beq_self_eq_true,cond_true,hy,if_pos (cast_lt hv6),Int.toNat_natCast,if_pos hv6,wrapS (by omega),hr]
   ·by_cases x1:x=1
    ·obtain⟨b,s',l',r1,r2,r3,hr⟩:=ih (v+1) m b1 s1 (l.set v 4294967295) (by omega) (by omega) (by omega) (by rw[List.length_set];exact hl) (u32_set hL _ _ ⟨4294967295,by omega,rfl⟩)
     refine⟨b,s',l',by omega,r2,r3,fun{α} k=> ?_⟩
     rw[g51v1l0_s,dT hvw,cond_true,hx,show(x==0)=false by simpa using x0,cond_false,x1,beq_self_eq_true,cond_true,if_pos (cast_lt hv6),Int.toNat_natCast,if_pos hv6,wrapS (by omega),hr]
    ·by_cases x2:x=2
     ·obtain⟨y,s2,b2,q1,q2,q3,q4,q5,hy⟩:=pick_resV q hu (at':=b1) (by omega) s1 5 (by omega)
      obtain⟨b,s',l',r1,r2,r3,hr⟩:=ih (v+1) m b2 s2 (l.set v (IntKind.wrap .u32 y)) (by omega) (by omega) (by omega) (by rw[List.length_set];exact hl) (u32_set hL _ _ (u32_wrap _))
      refine⟨b,s',l',by omega,r2,r3,fun{α} k=> ?_⟩
      rw[g51v1l0_s,dT hvw,cond_true,hx,show(x==0)=false by simpa using x0,cond_false,show(x==1)=false by simpa using x1,cond_false,x2,beq_self_eq_true,cond_true,hy,if_pos (cast_lt hv6),Int.toNat_natCast,if_pos hv6,wrapS (by omega),hr]
     ·obtain⟨y,s2,b2,q1,q2,q3,q4,q5,hy⟩:=pick_resV q hu (at':=b1) (by omega) s1 32 (by omega)
      have yw:IntKind.wrap .u64 y=y:=by
       have:=q2 (by omega)
       rw[wrapU64 q1 (by omega)]
      obtain⟨b,s',l',r1,r2,r3,hr⟩:=ih (v+1) m b2 s2 (l.set v (IntKind.wrap .u32 (1*2^(min y.toNat 32)))) (by omega) (by omega) (by omega) (by rw[List.length_set];exact hl) (u32_set hL _ _ (u32_wrap _))
      refine⟨b,s',l',by omega,r2,r3,fun{α} k=> ?_⟩
      rw[g51v1l0_s,dT hvw,cond_true,hx,show(x==0)=false by simpa using x0,cond_false,show(x==1)=false by simpa using x1,cond_false,show(x==2)=false by simpa using x2,cond_false,hy]
      dsimp only
      rw[yw,if_neg (by omega),if_pos (cast_lt hv6),Int.toNat_natCast,if_pos hv6,wrapS (by omega),hr]
  ·exact⟨at',s,l,by omega,hl,hL,fun{α} k=>by rw[g51v1l0_s,dF hvw,cond_false]⟩
theorem l01Drawn_resV(m:Nat)(hm:7≤m){u:List Int}(hu:Byt u){at':Nat}(ha:at'+200≤1000000)(s:Int):∃(c:Bool) (a b:Nat) (s':Int),a<W192∧(!(c&&decide (a=0)))=true∧b≤at'+40∧
  ∀{α:Type} (k:Bool→List Int→Int→Int→Option α),g51v1 m (at':Int) s u k=k c (limbs 6 a) (b:Int) s':=by
 obtain⟨x,s1,b1,p1,p2,p3,p4,p5,hx⟩:=pick_resV m hu (at':=at') (by omega) s 7 (by omega)
 have hx6:=p2 (by omega)
 obtain⟨b,s',l,r1,r2,r3,hr⟩:=drawn_loopV m hu x (by omega) false [0,0,0,0,0,0] 6 0 m b1 s1 [0,0,0,0,0,0] (by omega) (by omega) (by omega) rfl (limbs_u32 6 0)
 obtain⟨a,ha',rfl⟩:=limbs_ex r2 r3
 obtain⟨y,s2,b2,q1,q2,q3,q4,q5,hy⟩:=pick_resV m hu (at':=b) (by omega) s' 3 (by omega)
 refine⟨(y==0)&& !(decide (a=0)),a,b2,s2,ha', ?_,by omega,fun{α} k=> ?_⟩
 ·cases(y==0)<;>by_cases h:a=0<;>simp[h]
 ·rw[g51v1_o,hx]
  refine(hr _).trans ?_
  rw[g92v1_o,hy,g64L m _ ha']
theorem P6Half_resV(m:Nat)(hm:7≤m){u:List Int}(hu:Byt u):∃z:Int,z.natAbs<2^90∧∀{α:Type} (k:Bool→List Int→Option α),g26v1 m u k=k (zs z) (zl z):=by
 obtain⟨c,a,b,s,ha,hv,_,h⟩:=l01Drawn_resV m hm hu (at':=0) (by omega) 0
 have h90:(2:Nat)^90=18446744073709551616*67108864:=by decide
 have hW:18446744073709551616*67108864<W192:=by decide
 have hv':a%18446744073709551616+18446744073709551616*(a/18446744073709551616%4294967296/64)<18446744073709551616*67108864:=by omega
 generalize hA:a%18446744073709551616+18446744073709551616*(a/18446744073709551616%4294967296/64)=A at*
 refine⟨cond c (-(A:Int)) A, ?_,fun{α} k=> ?_⟩
 ·rw[h90];cases c<;>simp only[cond_true,cond_false,Int.natAbs_neg,Int.natAbs_natCast]<;>exact hv'
 ·rw[g26v1_o,g52v1_o]
  refine(h _).trans ?_
  dsimp only
  rw[half_limbs ha,hA,g64L m c (by omega),mk_zs,←mk_zl c A]
end Go.Proofs.YtlmmgjngihlpeaaDoor.Sx
