import Derived.Test.YtlmmgjngihlpeaaDoorPureK
/- Plain laws: int64 values of wide integers. Our own work. -/
namespace Go.Proofs.YtlmmgjngihlpeaaDoor.Sx
open Go
set_option linter.unusedVariables false
set_option linter.unusedSimpArgs false
set_option maxRecDepth 100000
theorem isLen_gt{a b c:Nat}(h:isLen a b=true):c<b↔2^c≤a:=by
 rw[isLen_iff] at h
 constructor
 ·intro hc
  rcases h.2 with h2|h2
  ·omega
  ·exact Nat.le_trans (Nat.pow_le_pow_right (by decide) (by omega)) h2
 ·intro hc
  by_cases hb:b≤c
  ·have:=Nat.pow_le_pow_right (n:=2) (by decide) hb
   omega
  ·omega
theorem low_or{x0 x1:Nat}(h0:x0<4294967296)(h1:x1<4294967296):ibits .or .u64 (IntKind.wrap .u64 ((IntKind.wrap .u64 (x1:Int))*2^32)) (IntKind.wrap .u64 (x0:Int))=((x0+4294967296*x1:Nat):Int):=by
 rw[wrapU64N,wrapU64N,Nat.mod_eq_of_lt (show x1<18446744073709551616 by omega),Nat.mod_eq_of_lt (show x0<18446744073709551616 by omega),show(2^32:Int)=((2^32:Nat):Int) from rfl,←Int.natCast_mul,wrapU64N,
  Nat.mod_eq_of_lt (by omega),or64 (by omega) (by omega),or_is_add x1 x0 32 h0]
 congr 1;omega
theorem g67L{α:Type}(n:Nat)(q:Bool){a:Nat}(ha:a<W192)(k:Int→Bool→Option α):g67 (n+7) q (limbs 6 a) k=cond (decide (18446744073709551616≤a)) (k 0 false)
  (cond (decide ((a:Int)>9223372036854775808)) (k 0 false) (cond ((a:Int)==9223372036854775808) (cond (!q) (k 0 false) (cond q (k (IntKind.wrap .i64 (IntKind.wrap .u64 (0-(a:Int)))) true) (k (IntKind.wrap .i64 (a:Int)) true)))
   (cond q (k (IntKind.wrap .i64 (IntKind.wrap .u64 (0-(a:Int)))) true) (k (IntKind.wrap .i64 (a:Int)) true)))):=by
 obtain⟨b,hb⟩:=len_of a
 obtain⟨x0,x1,x2,x3,x4,x5,p0,p1,p2,p3,p4,p5,e,e'⟩:=six_split a ha
 simp only[g67,g67b,g63L n ha hb]
 have g1:List.getD (limbs 6 a) 1 0=(x1:Int):=by rw[e];rfl
 have g0:List.getD (limbs 6 a) 0 0=(x0:Int):=by rw[e];rfl
 rw[g1,g0,low_or p0 p1]
 have hgt:=isLen_gt (c:=64) hb
 rw[show(2:Nat)^64=18446744073709551616 from rfl] at hgt
 have hsum:x0+4294967296*x1=a∨18446744073709551616≤a:=by omega
 by_cases hbig:18446744073709551616≤a
 ·have h64:64<b:=hgt.2 hbig
  simp only[eq_true (show(b:Int)>64 by omega),eq_true hbig,decide_true,cond_true]
 ·have h64:¬64<b:=fun h=>hbig (hgt.1 h)
  have hs:x0+4294967296*x1=a:=hsum.resolve_right hbig
  rw[hs]
  simp only[eq_false (show¬(b:Int)>64 by omega),eq_false hbig,decide_false,cond_false]
end Go.Proofs.YtlmmgjngihlpeaaDoor.Sx
/- Plain laws: shifts of sizes. Our own work. -/
namespace Go.Proofs.YtlmmgjngihlpeaaDoor.Sx
open Go
set_option linter.unusedVariables false
set_option linter.unusedSimpArgs false
set_option maxRecDepth 100000
theorem limbs_getD:∀(k a i:Nat),i<k→List.getD (limbs k a) i 0=((dv i a%4294967296:Nat):Int)
 |k+1,a,0,_=>rfl
 |k+1,a,i+1,h=>by
  show List.getD (limbs k (a/4294967296)) i 0=_
  rw[limbs_getD k _ i (by omega)];rfl
end Go.Proofs.YtlmmgjngihlpeaaDoor.Sx
/- Plain laws: shifts of sizes, up (reference) and down. Our own work. -/
namespace Go.Proofs.YtlmmgjngihlpeaaDoor.Sx
open Go
set_option linter.unusedVariables false
set_option linter.unusedSimpArgs false
set_option maxRecDepth 100000
def L6(f:Nat→Int):List Int:=(List.range 6).map f
theorem L6_getD(f:Nat→Int){i:Nat}(h:i<6):List.getD (L6 f) i 0=f i:=by
 match i,h with
 |0,_=>rfl
 |1,_=>rfl
 |2,_=>rfl
 |3,_=>rfl
 |4,_=>rfl
 |5,_=>rfl
theorem L6_set(f:Nat→Int){i:Nat}(h:i<6)(x:Int):List.set (L6 f) i x=L6 (fun j=>if j=i then x else f j):=by
 match i,h with
 |0,_=>rfl
 |1,_=>rfl
 |2,_=>rfl
 |3,_=>rfl
 |4,_=>rfl
 |5,_=>rfl
theorem L6_congr{f g:Nat→Int}(h:∀i,i<6→f i=g i):L6 f=L6 g:=by
 unfold L6
 exact List.map_congr_left fun i hi=>h i (List.mem_range.1 hi)
theorem limbs_L6(a:Nat):limbs 6 a=L6 (fun i=>((dv i a%4294967296:Nat):Int)):=rfl
end Go.Proofs.YtlmmgjngihlpeaaDoor.Sx
/- Plain laws: ShiftUp and ShiftNear. Our own work. -/
namespace Go.Proofs.YtlmmgjngihlpeaaDoor.Sx
open Go
set_option linter.unusedVariables false
set_option linter.unusedSimpArgs false
set_option maxRecDepth 100000
theorem pow192:(2:Nat)^192=W192:=by decide
theorem len_le192{a b:Nat}(ha:a<W192)(hb:isLen a b=true):b≤192:=isLen_le hb (by rw[pow192];exact ha)
end Go.Proofs.YtlmmgjngihlpeaaDoor.Sx
