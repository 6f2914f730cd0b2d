/- Plain laws: what the functions on wides tell of whole numbers. Our own work. -/
import Derived.Test.YtlmmgjngihlpeaaGreatZedC
namespace Go.Proofs.YtlmmgjngihlpeaaGreat.Sx
open Go
set_option linter.unusedVariables false
set_option linter.unusedSimpArgs false
set_option maxRecDepth 100000
variable {α:Type} {n:Nat}
theorem g121W(m:Nat){x:Int}(hx:x.natAbs<W192)(k:Int→Option α):g121 m (zs x) (zl x) k=k x.sign:=by
 unfold zl
 rw[g121L m (zs x) hx]
 unfold zs
 rcases Int.lt_trichotomy x 0 with h|h|h
 ·rw[decide_eq_true h,cond_true,Int.sign_eq_neg_one_of_neg h]
 ·subst h;rfl
 ·rw[decide_eq_false (show¬x<0 by omega),cond_false,decide_eq_false (show¬x.natAbs=0 by omega),cond_false,Int.sign_eq_one_of_pos h]
theorem g75W(m:Nat){x:Int}(hx:x.natAbs<W192)(k:Int→Option α):g75 m (zs x) (zl x) k=k x.sign:=by
 unfold zl
 rw[g75L m (zs x) hx]
 unfold zs
 rcases Int.lt_trichotomy x 0 with h|h|h
 ·rw[decide_eq_true h,cond_true,Int.sign_eq_neg_one_of_neg h]
 ·subst h;rfl
 ·rw[decide_eq_false (show¬x<0 by omega),cond_false,decide_eq_false (show¬x.natAbs=0 by omega),cond_false,Int.sign_eq_one_of_pos h]
theorem sign_ne{y:Int}(h:y≠0):(y.sign==0)=false:=by
 have:y.sign≠0:=fun e=>h (Int.sign_eq_zero_iff_zero.1 e)
 simpa using this
theorem abs_zl(x:Int):zl x=zl (x.natAbs:Int):=rfl
end Go.Proofs.YtlmmgjngihlpeaaGreat.Sx
