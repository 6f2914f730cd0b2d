/- The row of FnExactComposeMoebius. Printed by our own sx.py. -/
import Derived.Test.YtbpljilgekneoaaRows
import Derived.Test.YtbpljilgekneoaaRatD
import Derived.Test.YtbpljilgekneoaaSxS
import Derived.WalkKit
import Derived.ProofKit
import Derived.ChangeOld
import Derived.SizedLaws
namespace Go.Proofs.Ytbpljilgekneoaa.fnExactComposeMoebius
open Go.ChangeShapes Go.WideShapes Go.ChangeAt Go.RowKit
set_option linter.unusedVariables false
set_option maxRecDepth 100000
theorem inPlace_ : ((Rows.fnExactComposeMoebiusRow).inPlace == Try.prog.inPlace 8) = true := by kernel_rfl
theorem unfollowed_ : ((Rows.fnExactComposeMoebiusRow).unfollowed == Try.prog.unfollowed 8) = true := by kernel_rfl
theorem recurses_ : ((Rows.fnExactComposeMoebiusRow).recurses == Try.prog.recurses 8) = true := by kernel_rfl
theorem named_ : ((Rows.fnExactComposeMoebiusRow).named == Try.prog.varsNamed 8) = true := by kernel_rfl
theorem facts_ : joinedFacts Try.prog 8 Try.f8 Rows.fnExactComposeMoebiusSpec Rows.fnExactComposeMoebiusRow = true :=
  Sx.facts_of (by kernel_rfl) Sx.laidOut_ Sx.mapsRowed_ (by kernel_rfl) (by kernel_rfl) (by kernel_rfl) inPlace_ unfollowed_ recurses_ named_ (by kernel_rfl) (by kernel_rfl) (by kernel_rfl) (by kernel_rfl) (by kernel_rfl)
    (by kernel_rfl) (by kernel_rfl) (by kernel_rfl) (by kernel_rfl) (by kernel_rfl) rfl Sx.heard_ Sx.mayEnter_ rfl Sx.liftsFinal_ Sx.make_ rfl rfl rfl (by kernel_rfl) (by kernel_rfl) (by kernel_rfl)
theorem lifted (os : Os) (started : os.Started) (H : Type) (enc : TypeId × Value → H) :
    ReturnsInHanded {} Try.checked os 8 .any (Rows.fnExactComposeMoebiusSpec.pre6 enc Try.prog Try.f8 Rows.fnExactComposeMoebiusRow.domain false) (Rows.fnExactComposeMoebiusSpec.post enc Try.prog Try.f8 false true false false) := by
  refine returnsInHanded_of_change_sized (C := Try.checked) Sx.own_ started (by kernel_rfl) Try.func8
    (ChangeSpec.witness6 (enc := enc) (C := Try.checked) false ⟨#[], #[.agg #[.int .i64 0, .int .i64 0, .int .i64 0, .int .i64 0], .agg #[.int .i64 0, .int .i64 0, .int .i64 0, .int .i64 0]], []⟩ 8 (by kernel_rfl) (by kernel_rfl) (by kernel_rfl) (by kernel_rfl)) ?_
  intro W base args ds gs before hval0 hW hcnd hsz0 _
  exact Sx.law_post (fn := Try.f8) (s := Rows.fnExactComposeMoebiusSpec) (Sx.g8Fn 2000000000000000000) Sx.law8' (by kernel_rfl) Sx.laidOut_ (by kernel_rfl) rfl (fun H ds h => by
    match ds, h with
    | [d0, d1], _ => rfl) rfl Try.underlying4 hval0 hW
theorem over : Rows.fnExactComposeMoebiusRow.holds Try.pinned (OpenSpec.ofChange Rows.fnExactComposeMoebiusSpec) :=
  OpenClaim.holds_of_wide 8 Try.f8 rfl rfl rfl rfl rfl rfl rfl ⟨rfl, rfl, rfl, rfl, rfl⟩ rfl rfl rfl rfl rfl (by kernel_rfl) Try.func8 facts_
    (of_decide_eq_true (by kernel_rfl)) (by unfold Func.isWrapper; first | (rw [if_pos (by decide +kernel)]; kernel_rfl) | (rw [if_neg (by decide +kernel)]; exact ⟨rfl, rfl⟩))
    (fun os started H enc _ => lifted os started H enc)
theorem proved : Rows.FnExactComposeMoebiusSaid := over
#print axioms proved
end Go.Proofs.Ytbpljilgekneoaa.fnExactComposeMoebius
namespace Go.Proofs.Ytbpljilgekneoaa
/-- The row, under a short name, for the claim. -/
theorem fnExactComposeMoebius_holds : Rows.FnExactComposeMoebiusSaid := fnExactComposeMoebius.proved
end Go.Proofs.Ytbpljilgekneoaa
