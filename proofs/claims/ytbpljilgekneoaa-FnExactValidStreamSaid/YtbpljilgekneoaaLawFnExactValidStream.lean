/- The row of FnExactValidStream. Printed by our own sx.py. -/
import Derived.Test.YtbpljilgekneoaaRows
import Derived.Test.YtbpljilgekneoaaStrB
import Derived.Test.YtbpljilgekneoaaSxS
import Derived.WalkKit
import Derived.ProofKit
import Derived.ChangeOld
import Derived.SizedLaws
import Derived.HandedShaped
namespace Go.Proofs.Ytbpljilgekneoaa.fnExactValidStream
open Go.ChangeShapes Go.WideShapes Go.ChangeAt Go.RowKit
set_option linter.unusedVariables false
set_option maxRecDepth 100000
theorem inPlace_ : ((Rows.fnExactValidStreamRow).inPlace == Try.prog.inPlace 11) = true := by kernel_rfl
theorem unfollowed_ : ((Rows.fnExactValidStreamRow).unfollowed == Try.prog.unfollowed 11) = true := by kernel_rfl
theorem recurses_ : ((Rows.fnExactValidStreamRow).recurses == Try.prog.recurses 11) = true := by kernel_rfl
theorem named_ : ((Rows.fnExactValidStreamRow).named == Try.prog.varsNamed 11) = true := by kernel_rfl
theorem facts_ : joinedFacts Try.prog 11 Try.f11 Rows.fnExactValidStreamSpec Rows.fnExactValidStreamRow = true :=
  Sx.facts_of (by kernel_rfl) Sx.laidOut_ Sx.mapsRowed_ (by kernel_rfl) (by kernel_rfl) (by kernel_rfl) inPlace_ unfollowed_ recurses_ named_ (by kernel_rfl) (by kernel_rfl) (by kernel_rfl) (by kernel_rfl) (by kernel_rfl)
    (by kernel_rfl) (by kernel_rfl) (by kernel_rfl) (by kernel_rfl) (by kernel_rfl) rfl Sx.heard_ Sx.mayEnter_ rfl Sx.liftsFinal_ Sx.make_ rfl rfl rfl (by kernel_rfl) (by kernel_rfl) (by kernel_rfl)
theorem lifted (os : Os) (started : os.Started) (H : Type) (enc : TypeId × Value → H) :
    ReturnsInHanded {} Try.checked os 11 .any (Rows.fnExactValidStreamSpec.pre6 enc Try.prog Try.f11 Rows.fnExactValidStreamRow.domain false) (Rows.fnExactValidStreamSpec.post enc Try.prog Try.f11 false true false false) := by
  refine returnsInHanded_of_change_shaped (C := Try.checked) Sx.own_ started (by kernel_rfl) Try.func11
    (ChangeSpec.witness6 (enc := enc) (C := Try.checked) false ⟨#[], #[.agg #[.slice none 0 0, .slice none 0 0]], []⟩ 8 (by kernel_rfl) (by kernel_rfl) (by kernel_rfl) (by kernel_rfl)) ?_
  intro W base args ds gs before hval0 hW hcnd hsz0 hsh _
  exact Sx.law_postA (aps := [(.st [(.s (.int .i8)), (.s (.int .i8))])]) (fn := Try.f11) (s := Rows.fnExactValidStreamSpec) (Sx.shaped_pos hsh) (Sx.g11Fn 1048577) Sx.law11' (by kernel_rfl) Sx.laidOut_ (by kernel_rfl) rfl (fun H ds h => by
    match ds, h with
    | [d0], _ => rfl) rfl Try.underlying4 hval0 hW
theorem over : Rows.fnExactValidStreamRow.holds Try.pinned (OpenSpec.ofChange Rows.fnExactValidStreamSpec) :=
  OpenClaim.holds_of_wide 11 Try.f11 rfl rfl rfl rfl rfl rfl rfl ⟨rfl, rfl, rfl, rfl, rfl⟩ rfl rfl rfl rfl rfl (by kernel_rfl) Try.func11 facts_
    (of_decide_eq_true (by kernel_rfl)) (by unfold Func.isWrapper; first | (rw [if_pos (by decide +kernel)]; kernel_rfl) | (rw [if_neg (by decide +kernel)]; exact ⟨rfl, rfl⟩))
    (fun os started H enc _ => lifted os started H enc)
theorem proved : Rows.FnExactValidStreamSaid := over
#print axioms proved
end Go.Proofs.Ytbpljilgekneoaa.fnExactValidStream
namespace Go.Proofs.Ytbpljilgekneoaa
/-- The row, under a short name, for the claim. -/
theorem fnExactValidStream_holds : Rows.FnExactValidStreamSaid := fnExactValidStream.proved
end Go.Proofs.Ytbpljilgekneoaa
