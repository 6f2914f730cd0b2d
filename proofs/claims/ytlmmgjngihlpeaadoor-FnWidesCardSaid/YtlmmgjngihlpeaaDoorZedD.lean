/- Plain laws: what the functions on wides tell of whole numbers. Our own work. -/
import Derived.Test.YtlmmgjngihlpeaaDoorZedC
namespace Go.Proofs.YtlmmgjngihlpeaaDoor.Sx
open Go
set_option linter.unusedVariables false
set_option linter.unusedSimpArgs false
set_option maxRecDepth 100000
variable {α:Type} {n:Nat}
theorem g57W(m:Nat)(b:Bool)(l:List Int)(o:Bool)(k:Bool→List Int→Int→Option α):g57 m b l o k=cond o (k false [0,0,0,0,0,0] 3) (k b l 0):=by rw[g57_o]
theorem g61W(m:Nat){x:Int}(hx:x.natAbs<W192)(k:Int→Option α):g61 m (zs x) (zl x) k=k x.sign:=by
 unfold zl
 rw[g61L m (zs x) hx]
 unfold zs
 rcases Int.lt_trichotomy x 0 with h|h|h
 ·rw[decide_eq_true h,cond_true,Int.sign_eq_neg_one_of_neg h]
 ·subst h;rfl
 ·rw[decide_eq_false (show¬x<0 by omega),cond_false,decide_eq_false (show¬x.natAbs=0 by omega),cond_false,Int.sign_eq_one_of_pos h]
theorem sign_ne{y:Int}(h:y≠0):(y.sign==0)=false:=by
 have:y.sign≠0:=fun e=>h (Int.sign_eq_zero_iff_zero.1 e)
 simpa using this
theorem g27W{x y:Int}(hx:x.natAbs<W192)(hy:y.natAbs<W192)(k:Bool→List Int→Int→Option α):
  g27 (n+7) (zs x) (zl x) (zs y) (zl y) k=cond (fitZ (x*y)) (k (zs (x*y)) (zl (x*y)) 0) (k false [0,0,0,0,0,0] 3):=by
 rw[g27_o,g20Z _ hx,Bool.not_true,cond_false,g20Z _ hy,Bool.not_true,cond_false,g56Z hx hy]
 cases fitZ (x*y)
 ·rw[cond_false,cond_false,g57W,cond_true]
 ·rw[cond_true,cond_true,g57W,cond_false]
theorem g18W{x y:Int}(hx:x.natAbs<W192)(hy:y.natAbs<W192)(k:Bool→List Int→Int→Option α):
  g18 (n+7) (zs x) (zl x) (zs y) (zl y) k=cond (fitZ (x+y)) (k (zs (x+y)) (zl (x+y)) 0) (k false [0,0,0,0,0,0] 3):=by
 rw[g18_o,g20Z _ hx,Bool.not_true,cond_false,g20Z _ hy,Bool.not_true,cond_false,g55Z hx hy,Bool.false_or,g57W]
 cases h:fitZ (x+y)
 ·rfl
 ·rw[zt_of (fitZ_iff.1 h)];rfl
theorem g21W{x y:Int}(hx:x.natAbs<W192)(hy:y.natAbs<W192)(k:Bool→List Int→Int→Option α):
  g21 (n+7) (zs x) (zl x) (zs y) (zl y) k=cond (fitZ (x-y)) (k (zs (x-y)) (zl (x-y)) 0) (k false [0,0,0,0,0,0] 3):=by
 rw[g21_o,g20Z _ hx,Bool.not_true,cond_false,g20Z _ hy,Bool.not_true,cond_false,g59Z hx hy,Bool.false_or,g57W]
 cases h:fitZ (x-y)
 ·rfl
 ·rw[zt_of (fitZ_iff.1 h)];rfl
theorem g19W{x y:Int}(hx:x.natAbs<W192)(hy:y.natAbs<W192)(k:Bool→List Int→Int→Option α):
  g19 (n+7) (zs x) (zl x) (zs y) (zl y) k=cond (fitZ (x+y)) (k (zs (x+y)) (zl (x+y)) 0) (k false [0,0,0,0,0,0] 3):=by
 rw[g19_o,g46Z _ hx,Bool.not_true,cond_false,g46Z _ hy,Bool.not_true,cond_false,g58Z hx hy]
end Go.Proofs.YtlmmgjngihlpeaaDoor.Sx
