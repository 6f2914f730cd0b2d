/- The row of FnExactStreamText. Printed by our own sx.py. -/
import Derived.Test.YtbpljilgekneoaaRows
import Derived.Test.YtbpljilgekneoaaStrD
import Derived.Test.YtbpljilgekneoaaSxS
import Derived.WalkKit
import Derived.ProofKit
import Derived.ChangeOld
import Derived.SizedLaws
import Derived.HandedShaped
namespace Go.Proofs.Ytbpljilgekneoaa.fnExactStreamText
open Go.ChangeShapes Go.WideShapes Go.ChangeAt Go.RowKit
set_option linter.unusedVariables false
set_option maxRecDepth 100000
theorem inPlace_ : ((Rows.fnExactStreamTextRow).inPlace == Try.prog.inPlace 12) = true := by kernel_rfl
theorem unfollowed_ : ((Rows.fnExactStreamTextRow).unfollowed == Try.prog.unfollowed 12) = true := by kernel_rfl
theorem recurses_ : ((Rows.fnExactStreamTextRow).recurses == Try.prog.recurses 12) = true := by kernel_rfl
theorem named_ : ((Rows.fnExactStreamTextRow).named == Try.prog.varsNamed 12) = true := by kernel_rfl
theorem facts_ : joinedFacts Try.prog 12 Try.f12 Rows.fnExactStreamTextSpec Rows.fnExactStreamTextRow = true :=
  Sx.facts_of (by kernel_rfl) Sx.laidOut_ Sx.mapsRowed_ (by kernel_rfl) (by kernel_rfl) (by kernel_rfl) inPlace_ unfollowed_ recurses_ named_ (by kernel_rfl) (by kernel_rfl) (by kernel_rfl) (by kernel_rfl) (by kernel_rfl)
    (by kernel_rfl) (by kernel_rfl) (by kernel_rfl) (by kernel_rfl) (by kernel_rfl) rfl Sx.heard_ Sx.mayEnter_ rfl Sx.liftsFinal_ Sx.make_ rfl rfl rfl (by kernel_rfl) (by kernel_rfl) (by kernel_rfl)
theorem lifted (os : Os) (started : os.Started) (H : Type) (enc : TypeId × Value → H) :
    ReturnsInHanded {} Try.checked os 12 .any (Rows.fnExactStreamTextSpec.pre6 enc Try.prog Try.f12 Rows.fnExactStreamTextRow.domain false) (Rows.fnExactStreamTextSpec.post enc Try.prog Try.f12 false true false false) := by
  refine returnsInHanded_of_change_shaped (C := Try.checked) Sx.own_ started (by kernel_rfl) Try.func12
    (ChangeSpec.witness6 (enc := enc) (C := Try.checked) false ⟨#[], #[.agg #[.slice none 0 0, .slice none 0 0]], []⟩ 8 (by kernel_rfl) (by kernel_rfl) (by kernel_rfl) (by kernel_rfl)) ?_
  intro W base args ds gs before hval0 hW hcnd hsz0 hsh _
  exact Sx.law_postA (aps := [(.st [(.s (.int .i8)), (.s (.int .i8))])]) (fn := Try.f12) (s := Rows.fnExactStreamTextSpec) (Sx.shaped_pos hsh) (Sx.g12Fn 1048577) Sx.law12' (by kernel_rfl) Sx.laidOut_ (by kernel_rfl) rfl (fun H ds h => by
    match ds, h with
    | [d0], _ => rfl) rfl Try.underlying4 hval0 hW
theorem over : Rows.fnExactStreamTextRow.holds Try.pinned (OpenSpec.ofChange Rows.fnExactStreamTextSpec) :=
  OpenClaim.holds_of_wide 12 Try.f12 rfl rfl rfl rfl rfl rfl rfl ⟨rfl, rfl, rfl, rfl, rfl⟩ rfl rfl rfl rfl rfl (by kernel_rfl) Try.func12 facts_
    (of_decide_eq_true (by kernel_rfl)) (by unfold Func.isWrapper; first | (rw [if_pos (by decide +kernel)]; kernel_rfl) | (rw [if_neg (by decide +kernel)]; exact ⟨rfl, rfl⟩))
    (fun os started H enc _ => lifted os started H enc)
theorem proved : Rows.FnExactStreamTextSaid := over
#print axioms proved
end Go.Proofs.Ytbpljilgekneoaa.fnExactStreamText
namespace Go.Proofs.Ytbpljilgekneoaa
/-- The row, under a short name, for the claim. -/
theorem fnExactStreamText_holds : Rows.FnExactStreamTextSaid := fnExactStreamText.proved
end Go.Proofs.Ytbpljilgekneoaa
