/- The row of FnExactHalfStream. Printed by our own sx.py. -/
import Derived.Test.YtbpljilgekneoaaRows
import Derived.Test.YtbpljilgekneoaaStrC
import Derived.Test.YtbpljilgekneoaaSxS
import Derived.WalkKit
import Derived.ProofKit
import Derived.ChangeOld
import Derived.SizedLaws
import Derived.HandedShaped
namespace Go.Proofs.Ytbpljilgekneoaa.fnExactHalfStream
open Go.ChangeShapes Go.WideShapes Go.ChangeAt Go.RowKit
set_option linter.unusedVariables false
set_option maxRecDepth 100000
theorem inPlace_ : ((Rows.fnExactHalfStreamRow).inPlace == Try.prog.inPlace 15) = true := by kernel_rfl
theorem unfollowed_ : ((Rows.fnExactHalfStreamRow).unfollowed == Try.prog.unfollowed 15) = true := by kernel_rfl
theorem recurses_ : ((Rows.fnExactHalfStreamRow).recurses == Try.prog.recurses 15) = true := by kernel_rfl
theorem named_ : ((Rows.fnExactHalfStreamRow).named == Try.prog.varsNamed 15) = true := by kernel_rfl
theorem facts_ : joinedFacts Try.prog 15 Try.f15 Rows.fnExactHalfStreamSpec Rows.fnExactHalfStreamRow = true :=
  Sx.facts_of (by kernel_rfl) Sx.laidOut_ Sx.mapsRowed_ (by kernel_rfl) (by kernel_rfl) (by kernel_rfl) inPlace_ unfollowed_ recurses_ named_ (by kernel_rfl) (by kernel_rfl) (by kernel_rfl) (by kernel_rfl) (by kernel_rfl)
    (by kernel_rfl) (by kernel_rfl) (by kernel_rfl) (by kernel_rfl) (by kernel_rfl) rfl Sx.heard_ Sx.mayEnter_ rfl Sx.liftsFinal_ Sx.make_ rfl rfl rfl (by kernel_rfl) (by kernel_rfl) (by kernel_rfl)
theorem lifted (os : Os) (started : os.Started) (H : Type) (enc : TypeId × Value → H) :
    ReturnsInHanded {} Try.checked os 15 .any (Rows.fnExactHalfStreamSpec.pre6 enc Try.prog Try.f15 Rows.fnExactHalfStreamRow.domain false) (Rows.fnExactHalfStreamSpec.post enc Try.prog Try.f15 false true false false) := by
  refine returnsInHanded_of_change_shaped (C := Try.checked) Sx.own_ started (by kernel_rfl) Try.func15
    (ChangeSpec.witness6 (enc := enc) (C := Try.checked) false ⟨#[], #[.agg #[.slice none 0 0, .slice none 0 0]], []⟩ 8 (by kernel_rfl) (by kernel_rfl) (by kernel_rfl) (by kernel_rfl)) ?_
  intro W base args ds gs before hval0 hW hcnd hsz0 hsh _
  exact Sx.law_postA (aps := [(.st [(.s (.int .i8)), (.s (.int .i8))])]) (fn := Try.f15) (s := Rows.fnExactHalfStreamSpec) (Sx.shaped_pos hsh) (Sx.g15Fn 1048577) Sx.law15' (by kernel_rfl) Sx.laidOut_ (by kernel_rfl) rfl (fun H ds h => by
    match ds, h with
    | [d0], _ => rfl) rfl Try.underlying4 hval0 hW
theorem over : Rows.fnExactHalfStreamRow.holds Try.pinned (OpenSpec.ofChange Rows.fnExactHalfStreamSpec) :=
  OpenClaim.holds_of_wide 15 Try.f15 rfl rfl rfl rfl rfl rfl rfl ⟨rfl, rfl, rfl, rfl, rfl⟩ rfl rfl rfl rfl rfl (by kernel_rfl) Try.func15 facts_
    (of_decide_eq_true (by kernel_rfl)) (by unfold Func.isWrapper; first | (rw [if_pos (by decide +kernel)]; kernel_rfl) | (rw [if_neg (by decide +kernel)]; exact ⟨rfl, rfl⟩))
    (fun os started H enc _ => lifted os started H enc)
theorem proved : Rows.FnExactHalfStreamSaid := over
#print axioms proved
end Go.Proofs.Ytbpljilgekneoaa.fnExactHalfStream
namespace Go.Proofs.Ytbpljilgekneoaa
/-- The row, under a short name, for the claim. -/
theorem fnExactHalfStream_holds : Rows.FnExactHalfStreamSaid := fnExactHalfStream.proved
end Go.Proofs.Ytbpljilgekneoaa
