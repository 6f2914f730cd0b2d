/- The row of FnExactCompareRatios. Printed by our own sx.py. -/
import Derived.Test.YtbpljilgekneoaaRows
import Derived.Test.YtbpljilgekneoaaRatA
import Derived.Test.YtbpljilgekneoaaSxS
import Derived.WalkKit
import Derived.ProofKit
import Derived.ChangeOld
import Derived.SizedLaws
namespace Go.Proofs.Ytbpljilgekneoaa.fnExactCompareRatios
open Go.ChangeShapes Go.WideShapes Go.ChangeAt Go.RowKit
set_option linter.unusedVariables false
set_option maxRecDepth 100000
theorem inPlace_ : ((Rows.fnExactCompareRatiosRow).inPlace == Try.prog.inPlace 5) = true := by kernel_rfl
theorem unfollowed_ : ((Rows.fnExactCompareRatiosRow).unfollowed == Try.prog.unfollowed 5) = true := by kernel_rfl
theorem recurses_ : ((Rows.fnExactCompareRatiosRow).recurses == Try.prog.recurses 5) = true := by kernel_rfl
theorem named_ : ((Rows.fnExactCompareRatiosRow).named == Try.prog.varsNamed 5) = true := by kernel_rfl
theorem facts_ : joinedFacts Try.prog 5 Try.f5 Rows.fnExactCompareRatiosSpec Rows.fnExactCompareRatiosRow = true :=
  Sx.facts_of (by kernel_rfl) Sx.laidOut_ Sx.mapsRowed_ (by kernel_rfl) (by kernel_rfl) (by kernel_rfl) inPlace_ unfollowed_ recurses_ named_ (by kernel_rfl) (by kernel_rfl) (by kernel_rfl) (by kernel_rfl) (by kernel_rfl)
    (by kernel_rfl) (by kernel_rfl) (by kernel_rfl) (by kernel_rfl) (by kernel_rfl) rfl Sx.heard_ Sx.mayEnter_ rfl Sx.liftsFinal_ Sx.make_ rfl rfl rfl (by kernel_rfl) (by kernel_rfl) (by kernel_rfl)
theorem lifted (os : Os) (started : os.Started) (H : Type) (enc : TypeId × Value → H) :
    ReturnsInHanded {} Try.checked os 5 .any (Rows.fnExactCompareRatiosSpec.pre6 enc Try.prog Try.f5 Rows.fnExactCompareRatiosRow.domain false) (Rows.fnExactCompareRatiosSpec.post enc Try.prog Try.f5 false true false false) := by
  refine returnsInHanded_of_change_sized (C := Try.checked) Sx.own_ started (by kernel_rfl) Try.func5
    (ChangeSpec.witness6 (enc := enc) (C := Try.checked) false ⟨#[], #[.agg #[.int .i64 0, .int .i64 0], .agg #[.int .i64 0, .int .i64 0]], []⟩ 8 (by kernel_rfl) (by kernel_rfl) (by kernel_rfl) (by kernel_rfl)) ?_
  intro W base args ds gs before hval0 hW hcnd hsz0 _
  exact Sx.law_post (fn := Try.f5) (s := Rows.fnExactCompareRatiosSpec) (Sx.g5Fn 2000000000000000000) Sx.law5' (by kernel_rfl) Sx.laidOut_ (by kernel_rfl) rfl (fun H ds h => by
    match ds, h with
    | [d0, d1], _ => rfl) rfl Try.underlying4 hval0 hW
theorem over : Rows.fnExactCompareRatiosRow.holds Try.pinned (OpenSpec.ofChange Rows.fnExactCompareRatiosSpec) :=
  OpenClaim.holds_of_wide 5 Try.f5 rfl rfl rfl rfl rfl rfl rfl ⟨rfl, rfl, rfl, rfl, rfl⟩ rfl rfl rfl rfl rfl (by kernel_rfl) Try.func5 facts_
    (of_decide_eq_true (by kernel_rfl)) (by unfold Func.isWrapper; first | (rw [if_pos (by decide +kernel)]; kernel_rfl) | (rw [if_neg (by decide +kernel)]; exact ⟨rfl, rfl⟩))
    (fun os started H enc _ => lifted os started H enc)
theorem proved : Rows.FnExactCompareRatiosSaid := over
#print axioms proved
end Go.Proofs.Ytbpljilgekneoaa.fnExactCompareRatios
namespace Go.Proofs.Ytbpljilgekneoaa
/-- The row, under a short name, for the claim. -/
theorem fnExactCompareRatios_holds : Rows.FnExactCompareRatiosSaid := fnExactCompareRatios.proved
end Go.Proofs.Ytbpljilgekneoaa
