/- Plain laws: wides as whole numbers. Our own work. -/
import Derived.Test.YtlmmgjngihlpeaaDoorPureU
import Derived.Test.YtlmmgjngihlpeaaDoorSxU
namespace Go.Proofs.YtlmmgjngihlpeaaDoor.Sx
open Go
set_option linter.unusedVariables false
set_option linter.unusedSimpArgs false
set_option maxRecDepth 100000
def zs(z:Int):Bool:=decide (z<0)
def zl(z:Int):List Int:=limbs 6 z.natAbs
theorem zl_neg(z:Int):zl (-z)=zl z:=by unfold zl;rw[Int.natAbs_neg]
theorem zs_nat(a:Nat):zs (a:Int)=false:=decide_eq_false (by omega)
theorem zs_negnat(a:Nat):zs (-(a:Int))= !(decide (a=0)):=by
 unfold zs
 by_cases h:a=0
 ·subst h;rfl
 ·rw[decide_eq_false h,decide_eq_true (show-(a:Int)<0 by omega)];rfl
theorem zed_of{q:Bool}{a:Nat}(ha:a<W192)(h:(!(q&&decide (a=0)))=true):∃z:Int,z.natAbs<W192∧q=zs z∧limbs 6 a=zl z:=by
 cases q with
 |false=>exact⟨a,by omega,(zs_nat a).symm,rfl⟩
 |true=>
  refine⟨-(a:Int),by omega, ?_, ?_⟩
  ·rw[zs_negnat];simpa using h
  ·rw[zl_neg];rfl
theorem zed_valid(z:Int):(!(zs z&&decide (z.natAbs=0)))=true:=by
 unfold zs
 by_cases h:z<0
 ·rw[decide_eq_true h,decide_eq_false (show¬z.natAbs=0 by omega)];rfl
 ·rw[decide_eq_false h];rfl
variable {α:Type} {n:Nat}
theorem g46Z(m:Nat){z:Int}(hz:z.natAbs<W192)(k:Bool→Option α):g46 m (zs z) (zl z) k=k true:=by
 unfold zl
 rw[g46L m (zs z) hz,zed_valid]
theorem g20Z(m:Nat){z:Int}(hz:z.natAbs<W192)(k:Bool→Option α):g20 m (zs z) (zl z) k=k true:=by
 unfold zl
 rw[g20L m (zs z) hz,zed_valid]
end Go.Proofs.YtlmmgjngihlpeaaDoor.Sx
