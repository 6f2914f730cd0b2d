/- The row of FnExactSignWithin. Printed by our own sx.py. -/
import Derived.Test.YtlmmgjngihlpeaaRows
import Derived.Test.YtlmmgjngihlpeaaAskZ
import Derived.Test.YtlmmgjngihlpeaaSxS
import Derived.WalkKit
import Derived.ProofKit
import Derived.ChangeOld
import Derived.SizedLaws
import Derived.HandedShaped
namespace Go.Proofs.Ytlmmgjngihlpeaa.fnExactSignWithin
open Go.ChangeShapes Go.WideShapes Go.ChangeAt Go.RowKit
set_option linter.unusedVariables false
set_option maxRecDepth 100000
theorem inPlace_ : ((Rows.fnExactSignWithinRow).inPlace == Try.prog.inPlace 7) = true := by kernel_rfl
theorem unfollowed_ : ((Rows.fnExactSignWithinRow).unfollowed == Try.prog.unfollowed 7) = true := by kernel_rfl
theorem recurses_ : ((Rows.fnExactSignWithinRow).recurses == Try.prog.recurses 7) = true := by kernel_rfl
theorem named_ : ((Rows.fnExactSignWithinRow).named == Try.prog.varsNamed 7) = true := by kernel_rfl
theorem facts_ : joinedFacts Try.prog 7 Try.f7 Rows.fnExactSignWithinSpec Rows.fnExactSignWithinRow = true :=
  Sx.facts_of (by kernel_rfl) Sx.laidOut_ Sx.mapsRowed_ (by kernel_rfl) (by kernel_rfl) (by kernel_rfl) inPlace_ unfollowed_ recurses_ named_ (by kernel_rfl) (by kernel_rfl) (by kernel_rfl) (by kernel_rfl) (by kernel_rfl)
    (by kernel_rfl) (by kernel_rfl) (by kernel_rfl) (by kernel_rfl) (by kernel_rfl) rfl Sx.heard_ Sx.mayEnter_ rfl Sx.liftsFinal_ Sx.make_ rfl rfl rfl (by kernel_rfl) (by kernel_rfl) (by kernel_rfl)
theorem lifted (os : Os) (started : os.Started) (H : Type) (enc : TypeId × Value → H) :
    ReturnsInHanded {} Try.checked os 7 .any (Rows.fnExactSignWithinSpec.pre6 enc Try.prog Try.f7 Rows.fnExactSignWithinRow.domain false) (Rows.fnExactSignWithinSpec.post enc Try.prog Try.f7 false true false false) := by
  refine returnsInHanded_of_change_shaped (C := Try.checked) Sx.own_ started (by kernel_rfl) Try.func7
    (ChangeSpec.witness6 (enc := enc) (C := Try.checked) false ⟨#[], #[.slice none 0 0, .int .i64 0, .int .i64 0], []⟩ 8 (by kernel_rfl) (by kernel_rfl) (by kernel_rfl) (by kernel_rfl)) ?_
  intro W base args ds gs before hval0 hW hcnd hsz0 hsh _
  exact Sx.law_postA (aps := [(.sl (.rc [.i8, .i16, .i16, .i64, .i64])), (.flat (.vl (.sv (.int .i64)))), (.flat (.vl (.sv (.int .i64))))]) (fn := Try.f7) (s := Rows.fnExactSignWithinSpec) (Sx.shaped_pos hsh) (Sx.g7Fn 1048577) Sx.askLaw7' (by kernel_rfl) Sx.laidOut_ (by kernel_rfl) rfl (fun H ds h => by
    match ds, h with
    | [d0, d1, d2], _ => rfl) rfl Try.underlying4 hval0 hW
theorem over : Rows.fnExactSignWithinRow.holds Try.pinned (OpenSpec.ofChange Rows.fnExactSignWithinSpec) :=
  OpenClaim.holds_of_wide 7 Try.f7 rfl rfl rfl rfl rfl rfl rfl ⟨rfl, rfl, rfl, rfl, rfl⟩ rfl rfl rfl rfl rfl (by kernel_rfl) Try.func7 facts_
    (of_decide_eq_true (by kernel_rfl)) (by unfold Func.isWrapper; first | (rw [if_pos (by decide +kernel)]; kernel_rfl) | (rw [if_neg (by decide +kernel)]; exact ⟨rfl, rfl⟩))
    (fun os started H enc _ => lifted os started H enc)
theorem proved : Rows.FnExactSignWithinSaid := over
#print axioms proved
end Go.Proofs.Ytlmmgjngihlpeaa.fnExactSignWithin
namespace Go.Proofs.Ytlmmgjngihlpeaa
theorem fnExactSignWithin_holds : Rows.FnExactSignWithinSaid := fnExactSignWithin.proved
end Go.Proofs.Ytlmmgjngihlpeaa
