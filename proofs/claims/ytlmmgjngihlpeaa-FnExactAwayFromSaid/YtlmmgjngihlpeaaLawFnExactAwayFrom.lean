/- The row of FnExactAwayFrom. Printed by our own sx.py. -/
import Derived.Test.YtlmmgjngihlpeaaRows
import Derived.Test.YtlmmgjngihlpeaaAskX
import Derived.Test.YtlmmgjngihlpeaaSxS
import Derived.WalkKit
import Derived.ProofKit
import Derived.ChangeOld
import Derived.SizedLaws
import Derived.HandedShaped
namespace Go.Proofs.Ytlmmgjngihlpeaa.fnExactAwayFrom
open Go.ChangeShapes Go.WideShapes Go.ChangeAt Go.RowKit
set_option linter.unusedVariables false
set_option maxRecDepth 100000
theorem inPlace_ : ((Rows.fnExactAwayFromRow).inPlace == Try.prog.inPlace 4) = true := by kernel_rfl
theorem unfollowed_ : ((Rows.fnExactAwayFromRow).unfollowed == Try.prog.unfollowed 4) = true := by kernel_rfl
theorem recurses_ : ((Rows.fnExactAwayFromRow).recurses == Try.prog.recurses 4) = true := by kernel_rfl
theorem named_ : ((Rows.fnExactAwayFromRow).named == Try.prog.varsNamed 4) = true := by kernel_rfl
theorem facts_ : joinedFacts Try.prog 4 Try.f4 Rows.fnExactAwayFromSpec Rows.fnExactAwayFromRow = true :=
  Sx.facts_of (by kernel_rfl) Sx.laidOut_ Sx.mapsRowed_ (by kernel_rfl) (by kernel_rfl) (by kernel_rfl) inPlace_ unfollowed_ recurses_ named_ (by kernel_rfl) (by kernel_rfl) (by kernel_rfl) (by kernel_rfl) (by kernel_rfl)
    (by kernel_rfl) (by kernel_rfl) (by kernel_rfl) (by kernel_rfl) (by kernel_rfl) rfl Sx.heard_ Sx.mayEnter_ rfl Sx.liftsFinal_ Sx.make_ rfl rfl rfl (by kernel_rfl) (by kernel_rfl) (by kernel_rfl)
theorem lifted (os : Os) (started : os.Started) (H : Type) (enc : TypeId × Value → H) :
    ReturnsInHanded {} Try.checked os 4 .any (Rows.fnExactAwayFromSpec.pre6 enc Try.prog Try.f4 Rows.fnExactAwayFromRow.domain false) (Rows.fnExactAwayFromSpec.post enc Try.prog Try.f4 false true false false) := by
  refine returnsInHanded_of_change_shaped (C := Try.checked) Sx.own_ started (by kernel_rfl) Try.func4
    (ChangeSpec.witness6 (enc := enc) (C := Try.checked) false ⟨#[], #[.slice none 0 0, .int .i64 0], []⟩ 8 (by kernel_rfl) (by kernel_rfl) (by kernel_rfl) (by kernel_rfl)) ?_
  intro W base args ds gs before hval0 hW hcnd hsz0 hsh _
  exact Sx.law_postA (aps := [(.sl (.rc [.i8, .i16, .i16, .i64, .i64])), (.flat (.vl (.sv (.int .i64))))]) (fn := Try.f4) (s := Rows.fnExactAwayFromSpec) (Sx.shaped_pos hsh) (Sx.g4Fn 1048577) Sx.askLaw4' (by kernel_rfl) Sx.laidOut_ (by kernel_rfl) rfl (fun H ds h => by
    match ds, h with
    | [d0, d1], _ => rfl) rfl Try.underlying4 hval0 hW
theorem over : Rows.fnExactAwayFromRow.holds Try.pinned (OpenSpec.ofChange Rows.fnExactAwayFromSpec) :=
  OpenClaim.holds_of_wide 4 Try.f4 rfl rfl rfl rfl rfl rfl rfl ⟨rfl, rfl, rfl, rfl, rfl⟩ rfl rfl rfl rfl rfl (by kernel_rfl) Try.func4 facts_
    (of_decide_eq_true (by kernel_rfl)) (by unfold Func.isWrapper; first | (rw [if_pos (by decide +kernel)]; kernel_rfl) | (rw [if_neg (by decide +kernel)]; exact ⟨rfl, rfl⟩))
    (fun os started H enc _ => lifted os started H enc)
theorem proved : Rows.FnExactAwayFromSaid := over
#print axioms proved
end Go.Proofs.Ytlmmgjngihlpeaa.fnExactAwayFrom
namespace Go.Proofs.Ytlmmgjngihlpeaa
theorem fnExactAwayFrom_holds : Rows.FnExactAwayFromSaid := fnExactAwayFrom.proved
end Go.Proofs.Ytlmmgjngihlpeaa
