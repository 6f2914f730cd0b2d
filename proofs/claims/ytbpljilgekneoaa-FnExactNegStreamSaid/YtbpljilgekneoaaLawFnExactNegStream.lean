/- The row of FnExactNegStream. Printed by our own sx.py. -/
import Derived.Test.YtbpljilgekneoaaRows
import Derived.Test.YtbpljilgekneoaaStrC
import Derived.Test.YtbpljilgekneoaaSxS
import Derived.WalkKit
import Derived.ProofKit
import Derived.ChangeOld
import Derived.SizedLaws
import Derived.HandedShaped
namespace Go.Proofs.Ytbpljilgekneoaa.fnExactNegStream
open Go.ChangeShapes Go.WideShapes Go.ChangeAt Go.RowKit
set_option linter.unusedVariables false
set_option maxRecDepth 100000
theorem inPlace_ : ((Rows.fnExactNegStreamRow).inPlace == Try.prog.inPlace 14) = true := by kernel_rfl
theorem unfollowed_ : ((Rows.fnExactNegStreamRow).unfollowed == Try.prog.unfollowed 14) = true := by kernel_rfl
theorem recurses_ : ((Rows.fnExactNegStreamRow).recurses == Try.prog.recurses 14) = true := by kernel_rfl
theorem named_ : ((Rows.fnExactNegStreamRow).named == Try.prog.varsNamed 14) = true := by kernel_rfl
theorem facts_ : joinedFacts Try.prog 14 Try.f14 Rows.fnExactNegStreamSpec Rows.fnExactNegStreamRow = true :=
  Sx.facts_of (by kernel_rfl) Sx.laidOut_ Sx.mapsRowed_ (by kernel_rfl) (by kernel_rfl) (by kernel_rfl) inPlace_ unfollowed_ recurses_ named_ (by kernel_rfl) (by kernel_rfl) (by kernel_rfl) (by kernel_rfl) (by kernel_rfl)
    (by kernel_rfl) (by kernel_rfl) (by kernel_rfl) (by kernel_rfl) (by kernel_rfl) rfl Sx.heard_ Sx.mayEnter_ rfl Sx.liftsFinal_ Sx.make_ rfl rfl rfl (by kernel_rfl) (by kernel_rfl) (by kernel_rfl)
theorem lifted (os : Os) (started : os.Started) (H : Type) (enc : TypeId × Value → H) :
    ReturnsInHanded {} Try.checked os 14 .any (Rows.fnExactNegStreamSpec.pre6 enc Try.prog Try.f14 Rows.fnExactNegStreamRow.domain false) (Rows.fnExactNegStreamSpec.post enc Try.prog Try.f14 false true false false) := by
  refine returnsInHanded_of_change_shaped (C := Try.checked) Sx.own_ started (by kernel_rfl) Try.func14
    (ChangeSpec.witness6 (enc := enc) (C := Try.checked) false ⟨#[], #[.agg #[.slice none 0 0, .slice none 0 0]], []⟩ 8 (by kernel_rfl) (by kernel_rfl) (by kernel_rfl) (by kernel_rfl)) ?_
  intro W base args ds gs before hval0 hW hcnd hsz0 hsh _
  exact Sx.law_postA (aps := [(.st [(.s (.int .i8)), (.s (.int .i8))])]) (fn := Try.f14) (s := Rows.fnExactNegStreamSpec) (Sx.shaped_pos hsh) (Sx.g14Fn 1048577) Sx.law14' (by kernel_rfl) Sx.laidOut_ (by kernel_rfl) rfl (fun H ds h => by
    match ds, h with
    | [d0], _ => rfl) rfl Try.underlying4 hval0 hW
theorem over : Rows.fnExactNegStreamRow.holds Try.pinned (OpenSpec.ofChange Rows.fnExactNegStreamSpec) :=
  OpenClaim.holds_of_wide 14 Try.f14 rfl rfl rfl rfl rfl rfl rfl ⟨rfl, rfl, rfl, rfl, rfl⟩ rfl rfl rfl rfl rfl (by kernel_rfl) Try.func14 facts_
    (of_decide_eq_true (by kernel_rfl)) (by unfold Func.isWrapper; first | (rw [if_pos (by decide +kernel)]; kernel_rfl) | (rw [if_neg (by decide +kernel)]; exact ⟨rfl, rfl⟩))
    (fun os started H enc _ => lifted os started H enc)
theorem proved : Rows.FnExactNegStreamSaid := over
#print axioms proved
end Go.Proofs.Ytbpljilgekneoaa.fnExactNegStream
namespace Go.Proofs.Ytbpljilgekneoaa
/-- The row, under a short name, for the claim. -/
theorem fnExactNegStream_holds : Rows.FnExactNegStreamSaid := fnExactNegStream.proved
end Go.Proofs.Ytbpljilgekneoaa
