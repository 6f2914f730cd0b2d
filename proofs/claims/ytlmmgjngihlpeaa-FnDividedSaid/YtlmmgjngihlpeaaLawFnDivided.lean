/- The row of FnDivided. Printed by our own sx.py. -/
import Derived.Test.YtlmmgjngihlpeaaRows
import Derived.Test.YtlmmgjngihlpeaaDivA
import Derived.Test.YtlmmgjngihlpeaaSxS
import Derived.WalkKit
import Derived.ProofKit
import Derived.ChangeOld
import Derived.SizedLaws
import Derived.HandedShaped
namespace Go.Proofs.Ytlmmgjngihlpeaa.fnDivided
open Go.ChangeShapes Go.WideShapes Go.ChangeAt Go.RowKit
set_option linter.unusedVariables false
set_option maxRecDepth 100000
theorem inPlace_ : ((Rows.fnDividedRow).inPlace == Try.prog.inPlace 3) = true := by kernel_rfl
theorem unfollowed_ : ((Rows.fnDividedRow).unfollowed == Try.prog.unfollowed 3) = true := by kernel_rfl
theorem recurses_ : ((Rows.fnDividedRow).recurses == Try.prog.recurses 3) = true := by kernel_rfl
theorem named_ : ((Rows.fnDividedRow).named == Try.prog.varsNamed 3) = true := by kernel_rfl
theorem facts_ : joinedFacts Try.prog 3 Try.f3 Rows.fnDividedSpec Rows.fnDividedRow = true :=
  Sx.facts_of (by kernel_rfl) Sx.laidOut_ Sx.mapsRowed_ (by kernel_rfl) (by kernel_rfl) (by kernel_rfl) inPlace_ unfollowed_ recurses_ named_ (by kernel_rfl) (by kernel_rfl) (by kernel_rfl) (by kernel_rfl) (by kernel_rfl)
    (by kernel_rfl) (by kernel_rfl) (by kernel_rfl) (by kernel_rfl) (by kernel_rfl) rfl Sx.heard_ Sx.mayEnter_ rfl Sx.liftsFinal_ Sx.make_ rfl rfl rfl (by kernel_rfl) (by kernel_rfl) (by kernel_rfl)
theorem lifted (os : Os) (started : os.Started) (H : Type) (enc : TypeId × Value → H) :
    ReturnsInHanded {} Try.checked os 3 .any (Rows.fnDividedSpec.pre6 enc Try.prog Try.f3 Rows.fnDividedRow.domain false) (Rows.fnDividedSpec.post enc Try.prog Try.f3 false true false false) := by
  refine returnsInHanded_of_change_shaped (C := Try.checked) Sx.own_ started (by kernel_rfl) Try.func3
    (ChangeSpec.witness6 (enc := enc) (C := Try.checked) false ⟨#[], #[.slice none 0 0, .slice none 0 0], []⟩ 8 (by kernel_rfl) (by kernel_rfl) (by kernel_rfl) (by kernel_rfl)) ?_
  intro W base args ds gs before hval0 hW hcnd hsz0 hsh _
  exact Sx.law_postA (aps := [(.sl (.int .u8)), (.sl (.int .u8))]) (fn := Try.f3) (s := Rows.fnDividedSpec) (Sx.shaped_pos hsh) (Sx.g3Fn 6277101735386680763835789423207666416102355444464034513236) Sx.lawDivided' (by kernel_rfl) Sx.laidOut_ (by kernel_rfl) rfl (fun H ds h => by
    match ds, h with
    | [d0, d1], _ => rfl) rfl Try.underlying4 hval0 hW
theorem over : Rows.fnDividedRow.holds Try.pinned (OpenSpec.ofChange Rows.fnDividedSpec) :=
  OpenClaim.holds_of_wide 3 Try.f3 rfl rfl rfl rfl rfl rfl rfl ⟨rfl, rfl, rfl, rfl, rfl⟩ rfl rfl rfl rfl rfl (by kernel_rfl) Try.func3 facts_
    (of_decide_eq_true (by kernel_rfl)) (by unfold Func.isWrapper; first | (rw [if_pos (by decide +kernel)]; kernel_rfl) | (rw [if_neg (by decide +kernel)]; exact ⟨rfl, rfl⟩))
    (fun os started H enc _ => lifted os started H enc)
theorem proved : Rows.FnDividedSaid := over
#print axioms proved
end Go.Proofs.Ytlmmgjngihlpeaa.fnDivided
namespace Go.Proofs.Ytlmmgjngihlpeaa
/-- The row, under a short name, for the claim. -/
theorem fnDivided_holds : Rows.FnDividedSaid := fnDivided.proved
end Go.Proofs.Ytlmmgjngihlpeaa
