/- The row of FnExactDivWides. Printed by our own sx.py. -/
import Derived.Test.YtcccndkeaichcaaRows
import Derived.Test.YtcccndkeaichcaaPureZa
import Derived.Test.YtcccndkeaichcaaSxS
import Derived.WalkKit
import Derived.ProofKit
import Derived.ChangeOld
import Derived.SizedLaws
namespace Go.Proofs.Ytcccndkeaichcaa.fnExactDivWides
open Go.ChangeShapes Go.WideShapes Go.ChangeAt Go.RowKit
set_option linter.unusedVariables false
set_option maxRecDepth 100000
theorem inPlace_ : ((Rows.fnExactDivWidesRow).inPlace == Try.prog.inPlace 20) = true := by kernel_rfl
theorem unfollowed_ : ((Rows.fnExactDivWidesRow).unfollowed == Try.prog.unfollowed 20) = true := by kernel_rfl
theorem recurses_ : ((Rows.fnExactDivWidesRow).recurses == Try.prog.recurses 20) = true := by kernel_rfl
theorem named_ : ((Rows.fnExactDivWidesRow).named == Try.prog.varsNamed 20) = true := by kernel_rfl
theorem facts_ : joinedFacts Try.prog 20 Try.f20 Rows.fnExactDivWidesSpec Rows.fnExactDivWidesRow = true :=
  Sx.facts_of (by kernel_rfl) Sx.laidOut_ Sx.mapsRowed_ (by kernel_rfl) (by kernel_rfl) (by kernel_rfl) inPlace_ unfollowed_ recurses_ named_ (by kernel_rfl) (by kernel_rfl) (by kernel_rfl) (by kernel_rfl) (by kernel_rfl)
    (by kernel_rfl) (by kernel_rfl) (by kernel_rfl) (by kernel_rfl) (by kernel_rfl) rfl Sx.heard_ Sx.mayEnter_ rfl Sx.liftsFinal_ Sx.make_ rfl rfl rfl (by kernel_rfl) (by kernel_rfl) (by kernel_rfl)
theorem lifted (os : Os) (started : os.Started) (H : Type) (enc : TypeId × Value → H) :
    ReturnsInHanded {} Try.checked os 20 .any (Rows.fnExactDivWidesSpec.pre6 enc Try.prog Try.f20 Rows.fnExactDivWidesRow.domain false) (Rows.fnExactDivWidesSpec.post enc Try.prog Try.f20 false true false false) := by
  refine returnsInHanded_of_change_sized (C := Try.checked) Sx.own_ started (by kernel_rfl) Try.func20
    (ChangeSpec.witness6 (enc := enc) (C := Try.checked) false ⟨#[], #[.agg #[.bool false, .int .u32 0, .int .u32 0, .int .u32 0, .int .u32 0, .int .u32 0, .int .u32 0], .agg #[.bool false, .int .u32 0, .int .u32 0, .int .u32 0, .int .u32 0, .int .u32 0, .int .u32 0]], []⟩ 8 (by kernel_rfl) (by kernel_rfl) (by kernel_rfl) (by kernel_rfl)) ?_
  intro W base args ds gs before hval0 hW hcnd hsz0 _
  exact Sx.law_post (fn := Try.f20) (s := Rows.fnExactDivWidesSpec) (Sx.g20Fn 240) Sx.law20' (by kernel_rfl) Sx.laidOut_ (by kernel_rfl) rfl (fun H ds h => by
    match ds, h with
    | [d0, d1], _ => rfl) rfl Try.underlying4 hval0 hW
theorem over : Rows.fnExactDivWidesRow.holds Try.pinned (OpenSpec.ofChange Rows.fnExactDivWidesSpec) :=
  OpenClaim.holds_of_wide 20 Try.f20 rfl rfl rfl rfl rfl rfl rfl ⟨rfl, rfl, rfl, rfl, rfl⟩ rfl rfl rfl rfl rfl (by kernel_rfl) Try.func20 facts_
    (of_decide_eq_true (by kernel_rfl)) (by unfold Func.isWrapper; first | (rw [if_pos (by decide +kernel)]; kernel_rfl) | (rw [if_neg (by decide +kernel)]; exact ⟨rfl, rfl⟩))
    (fun os started H enc _ => lifted os started H enc)
theorem proved : Rows.FnExactDivWidesSaid := over
#print axioms proved
end Go.Proofs.Ytcccndkeaichcaa.fnExactDivWides
namespace Go.Proofs.Ytcccndkeaichcaa
/-- The row, under a short name, for the claim. -/
theorem fnExactDivWides_holds : Rows.FnExactDivWidesSaid := fnExactDivWides.proved
end Go.Proofs.Ytcccndkeaichcaa
