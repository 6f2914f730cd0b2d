import Derived.Test.YtlmmgjngihlpeaaDoorPureU
/- Plain laws: long division bit by bit (the reference). Our own work. -/
namespace Go.Proofs.YtlmmgjngihlpeaaDoor.Sx
open Go
set_option linter.unusedVariables false
set_option linter.unusedSimpArgs false
set_option maxRecDepth 100000
end Go.Proofs.YtlmmgjngihlpeaaDoor.Sx
/- Plain laws: division by a small number; the step of long division (impl). Our own work. -/
namespace Go.Proofs.YtlmmgjngihlpeaaDoor.Sx
open Go
set_option linter.unusedVariables false
set_option linter.unusedSimpArgs false
set_option maxRecDepth 100000
theorem or_top{x y:Nat}(hx:x<4294967296)(hy:y<4294967296):ibits .or .u64 (IntKind.wrap .u64 ((x:Int)*2^32)) (IntKind.wrap .u64 (y:Int))=((x*4294967296+y:Nat):Int):=by
 rw[show(2^32:Int)=((4294967296:Nat):Int) from rfl,←Int.natCast_mul,wrapU64N,wrapU64N,Nat.mod_eq_of_lt (by omega),Nat.mod_eq_of_lt (by omega),or64 (by omega) (by omega)]
 have:=or_is_add x y 32 hy
 rw[show(2:Nat)^32=4294967296 from rfl] at this
 rw[this]
theorem small_digit{A d x:Nat}(hd:0<d)(hx:x<4294967296):(A%d*4294967296+x)/d=(A*4294967296+x)/d%4294967296∧(A%d*4294967296+x)%d=(A*4294967296+x)%d:=by
 have h1:=Nat.div_add_mod A d
 have h2:=Nat.mod_lt A hd
 generalize A/d=Q at*
 generalize A%d=r at*
 have h3:A*4294967296+x=d*(Q*4294967296)+(r*4294967296+x):=by rw[←h1,Nat.add_mul,Nat.mul_assoc];omega
 have h4:(r*4294967296+x)/d<4294967296:=by
  apply Nat.div_lt_of_lt_mul
  have:(r+1)*4294967296≤d*4294967296:=Nat.mul_le_mul_right _ h2
  rw[Nat.add_mul] at this;omega
 rw[h3,Nat.mul_add_div hd,Nat.mul_add_mod]
 generalize (r*4294967296+x)/d=f at*
 exact⟨by omega,rfl⟩
theorem g49s{α:Type}(j v d ρ x:Nat)(hv:v<6)(hd:0<d)(hdB:d<4294967296)(hρ:ρ<d)(hx:x<4294967296)(z out:List Int)(ho:List.getD out v 0=(x:Int))(k:Int→List Int→Option α):
  g49l0 (d:Int) z k (j+1) (ρ:Int) (v:Int) out=g49l0 (d:Int) z k j (((ρ*4294967296+x)%d:Nat):Int) ((v:Int)-1) (List.set out v (((ρ*4294967296+x)/d:Nat):Int)):=by
 have hq:(ρ*4294967296+x)/d<4294967296:=by
  apply Nat.div_lt_of_lt_mul
  have:(ρ+1)*4294967296≤d*4294967296:=Nat.mul_le_mul_right _ hρ
  rw[Nat.add_mul] at this;omega
 simp only[g49l0,g49l0b]
 rw[decide_eq_true (show(v:Int)≥0 by omega),cond_true,if_pos (by omega),Int.toNat_natCast,if_pos hv,ho,or_top (by omega) hx,wrapU64N d,Nat.mod_eq_of_lt (show d<18446744073709551616 by omega),if_neg (by omega),if_pos (by omega),if_pos hv,if_neg (by omega),
  ←Int.ofNat_tmod,←Int.ofNat_tdiv,wrapU64N,Nat.mod_eq_of_lt (show(ρ*4294967296+x)/d<18446744073709551616 by omega),wrapU32,Nat.mod_eq_of_lt hq,wrapI64 (x:=(v:Int)-1) (by omega) (by omega)]
theorem g49loop{α:Type}(d a:Nat)(hd:0<d)(hdB:d<4294967296)(z:List Int)(k:Int→List Int→Option α):∀(w f:Nat),w≤6→w<f→
  g49l0 (d:Int) z k f ((a/4294967296^w%d:Nat):Int) ((w:Int)-1) (L6 (fun i=>if i<w then((dv i a%4294967296:Nat):Int) else((dv i (a/d)%4294967296:Nat):Int)))=k ((a%d:Nat):Int) (limbs 6 (a/d))
 |0,f,hw,hf=>by
  obtain⟨f,rfl⟩:∃j,f=j+1:=⟨f-1,by omega⟩
  simp only[g49l0,g49l0b]
  rw[decide_eq_false (show¬((0:Nat):Int)-1≥0 by omega),cond_false,Nat.pow_zero,Nat.div_one,limbs_L6]
  rfl
 |w+1,f,hw,hf=>by
  obtain⟨f,rfl⟩:∃j,f=j+1:=⟨f-1,by omega⟩
  have hx:dv w a%4294967296<4294967296:=Nat.mod_lt _ (by decide)
  have hget:List.getD (L6 (fun i=>if i<w+1 then((dv i a%4294967296:Nat):Int) else((dv i (a/d)%4294967296:Nat):Int))) w 0=((dv w a%4294967296:Nat):Int):=by
   rw[L6_getD _ (by omega),if_pos (by omega)]
  rw[show((w+1:Nat):Int)-1=(w:Int) by omega,g49s f w d _ _ (by omega) hd hdB (Nat.mod_lt _ hd) hx z _ hget k,L6_set _ (by omega)]
  obtain⟨e1,e2⟩:=small_digit (A:=a/4294967296^(w+1)) hd hx
  have e3:a/4294967296^(w+1)*4294967296+dv w a%4294967296=a/4294967296^w:=by
   rw[dv_eq,Nat.pow_succ,←Nat.div_div_eq_div_mul,Nat.mul_comm]
   exact Nat.div_add_mod _ _
  rw[e3] at e1 e2
  rw[e1,e2,←g49loop d a hd hdB z k w f (by omega) (by omega)]
  congr 1
  apply L6_congr
  intro i hi
  by_cases h:i=w
  ·subst h
   rw[if_pos rfl,if_neg (by omega),dv_eq,Nat.div_div_eq_div_mul,Nat.div_div_eq_div_mul,Nat.mul_comm d]
  ·rw[if_neg h]
   by_cases h2:i<w
   ·rw[if_pos h2,if_pos (by omega)]
   ·rw[if_neg h2,if_neg (by omega)]
theorem g49L{α:Type}(n:Nat){a d:Nat}(ha:a<W192)(hd:0<d)(hdB:d<4294967296)(k:List Int→Int→Option α):g49 (n+7) (limbs 6 a) (d:Int) k=k (limbs 6 (a/d)) ((a%d:Nat):Int):=by
 have h:g49 (n+7) (limbs 6 a) (d:Int) k=g49l0 (d:Int) [0,0,0,0,0,0] (fun x l=>k l (IntKind.wrap .u32 x)) (n+7) 0 5 (limbs 6 a):=rfl
 have h2:=g49loop (α:=α) d a hd hdB [0,0,0,0,0,0] (fun x l=>k l (IntKind.wrap .u32 x)) 6 (n+7) (by omega) (by omega)
 have h3:a/4294967296^6%d=0:=by
  rw[show(4294967296:Nat)^6=W192 from by decide,Nat.div_eq_of_lt ha,Nat.zero_mod]
 rw[h3] at h2
 have h4:L6 (fun i=>if i<6 then((dv i a%4294967296:Nat):Int) else((dv i (a/d)%4294967296:Nat):Int))=limbs 6 a:=by
  rw[limbs_L6];apply L6_congr;intro i hi;rw[if_pos hi]
 rw[h4] at h2
 rw[h]
 refine h2.trans ?_
 show k (limbs 6 (a/d)) (IntKind.wrap .u32 ((a%d:Nat):Int))=_
 have:a%d<d:=Nat.mod_lt _ hd
 rw[wrapU32,Nat.mod_eq_of_lt (by omega)]
end Go.Proofs.YtlmmgjngihlpeaaDoor.Sx
/- Plain laws: the step of long division (impl), the whole. Our own work. -/
namespace Go.Proofs.YtlmmgjngihlpeaaDoor.Sx
open Go
set_option linter.unusedVariables false
set_option linter.unusedSimpArgs false
set_option maxRecDepth 100000
def sg(j U i N X:Nat):List Int:=limbs j U++(limbs i N++limbs (7-j-i) (X/4294967296^i))
end Go.Proofs.YtlmmgjngihlpeaaDoor.Sx
/- Plain laws: long division (impl). Our own work. -/
namespace Go.Proofs.YtlmmgjngihlpeaaDoor.Sx
open Go
set_option linter.unusedVariables false
set_option linter.unusedSimpArgs false
set_option maxRecDepth 100000
end Go.Proofs.YtlmmgjngihlpeaaDoor.Sx
