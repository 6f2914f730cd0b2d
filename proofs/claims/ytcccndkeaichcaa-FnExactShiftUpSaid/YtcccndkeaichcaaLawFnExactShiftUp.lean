/- The row of FnExactShiftUp. Printed by our own sx.py. -/
import Derived.Test.YtcccndkeaichcaaRows
import Derived.Test.YtcccndkeaichcaaPureQ
import Derived.Test.YtcccndkeaichcaaSxS
import Derived.WalkKit
import Derived.ProofKit
import Derived.ChangeOld
import Derived.SizedLaws
namespace Go.Proofs.Ytcccndkeaichcaa.fnExactShiftUp
open Go.ChangeShapes Go.WideShapes Go.ChangeAt Go.RowKit
set_option linter.unusedVariables false
set_option maxRecDepth 100000
theorem inPlace_ : ((Rows.fnExactShiftUpRow).inPlace == Try.prog.inPlace 13) = true := by kernel_rfl
theorem unfollowed_ : ((Rows.fnExactShiftUpRow).unfollowed == Try.prog.unfollowed 13) = true := by kernel_rfl
theorem recurses_ : ((Rows.fnExactShiftUpRow).recurses == Try.prog.recurses 13) = true := by kernel_rfl
theorem named_ : ((Rows.fnExactShiftUpRow).named == Try.prog.varsNamed 13) = true := by kernel_rfl
theorem facts_ : joinedFacts Try.prog 13 Try.f13 Rows.fnExactShiftUpSpec Rows.fnExactShiftUpRow = true :=
  Sx.facts_of (by kernel_rfl) Sx.laidOut_ Sx.mapsRowed_ (by kernel_rfl) (by kernel_rfl) (by kernel_rfl) inPlace_ unfollowed_ recurses_ named_ (by kernel_rfl) (by kernel_rfl) (by kernel_rfl) (by kernel_rfl) (by kernel_rfl)
    (by kernel_rfl) (by kernel_rfl) (by kernel_rfl) (by kernel_rfl) (by kernel_rfl) rfl Sx.heard_ Sx.mayEnter_ rfl Sx.liftsFinal_ Sx.make_ rfl rfl rfl (by kernel_rfl) (by kernel_rfl) (by kernel_rfl)
theorem lifted (os : Os) (started : os.Started) (H : Type) (enc : TypeId × Value → H) :
    ReturnsInHanded {} Try.checked os 13 .any (Rows.fnExactShiftUpSpec.pre6 enc Try.prog Try.f13 Rows.fnExactShiftUpRow.domain false) (Rows.fnExactShiftUpSpec.post enc Try.prog Try.f13 false true false false) := by
  refine returnsInHanded_of_change_sized (C := Try.checked) Sx.own_ started (by kernel_rfl) Try.func13
    (ChangeSpec.witness6 (enc := enc) (C := Try.checked) false ⟨#[], #[.agg #[.bool false, .int .u32 0, .int .u32 0, .int .u32 0, .int .u32 0, .int .u32 0, .int .u32 0], .int .i64 0], []⟩ 8 (by kernel_rfl) (by kernel_rfl) (by kernel_rfl) (by kernel_rfl)) ?_
  intro W base args ds gs before hval0 hW hcnd hsz0 _
  exact Sx.law_post (fn := Try.f13) (s := Rows.fnExactShiftUpSpec) (Sx.g13Fn 47) Sx.law13' (by kernel_rfl) Sx.laidOut_ (by kernel_rfl) rfl (fun H ds h => by
    match ds, h with
    | [d0, d1], _ => rfl) rfl Try.underlying4 hval0 hW
theorem over : Rows.fnExactShiftUpRow.holds Try.pinned (OpenSpec.ofChange Rows.fnExactShiftUpSpec) :=
  OpenClaim.holds_of_wide 13 Try.f13 rfl rfl rfl rfl rfl rfl rfl ⟨rfl, rfl, rfl, rfl, rfl⟩ rfl rfl rfl rfl rfl (by kernel_rfl) Try.func13 facts_
    (of_decide_eq_true (by kernel_rfl)) (by unfold Func.isWrapper; first | (rw [if_pos (by decide +kernel)]; kernel_rfl) | (rw [if_neg (by decide +kernel)]; exact ⟨rfl, rfl⟩))
    (fun os started H enc _ => lifted os started H enc)
theorem proved : Rows.FnExactShiftUpSaid := over
#print axioms proved
end Go.Proofs.Ytcccndkeaichcaa.fnExactShiftUp
namespace Go.Proofs.Ytcccndkeaichcaa
/-- The row, under a short name, for the claim. -/
theorem fnExactShiftUp_holds : Rows.FnExactShiftUpSaid := fnExactShiftUp.proved
end Go.Proofs.Ytcccndkeaichcaa
