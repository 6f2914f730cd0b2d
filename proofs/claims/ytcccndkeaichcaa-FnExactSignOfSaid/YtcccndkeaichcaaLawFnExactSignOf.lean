/- The row of FnExactSignOf. Printed by our own sx.py. -/
import Derived.Test.YtcccndkeaichcaaRows
import Derived.Test.YtcccndkeaichcaaPureB
import Derived.Test.YtcccndkeaichcaaSxS
import Derived.WalkKit
import Derived.ProofKit
import Derived.ChangeOld
import Derived.SizedLaws
namespace Go.Proofs.Ytcccndkeaichcaa.fnExactSignOf
open Go.ChangeShapes Go.WideShapes Go.ChangeAt Go.RowKit
set_option linter.unusedVariables false
set_option maxRecDepth 100000
theorem inPlace_ : ((Rows.fnExactSignOfRow).inPlace == Try.prog.inPlace 6) = true := by kernel_rfl
theorem unfollowed_ : ((Rows.fnExactSignOfRow).unfollowed == Try.prog.unfollowed 6) = true := by kernel_rfl
theorem recurses_ : ((Rows.fnExactSignOfRow).recurses == Try.prog.recurses 6) = true := by kernel_rfl
theorem named_ : ((Rows.fnExactSignOfRow).named == Try.prog.varsNamed 6) = true := by kernel_rfl
theorem facts_ : joinedFacts Try.prog 6 Try.f6 Rows.fnExactSignOfSpec Rows.fnExactSignOfRow = true :=
  Sx.facts_of (by kernel_rfl) Sx.laidOut_ Sx.mapsRowed_ (by kernel_rfl) (by kernel_rfl) (by kernel_rfl) inPlace_ unfollowed_ recurses_ named_ (by kernel_rfl) (by kernel_rfl) (by kernel_rfl) (by kernel_rfl) (by kernel_rfl)
    (by kernel_rfl) (by kernel_rfl) (by kernel_rfl) (by kernel_rfl) (by kernel_rfl) rfl Sx.heard_ Sx.mayEnter_ rfl Sx.liftsFinal_ Sx.make_ rfl rfl rfl (by kernel_rfl) (by kernel_rfl) (by kernel_rfl)
theorem lifted (os : Os) (started : os.Started) (H : Type) (enc : TypeId × Value → H) :
    ReturnsInHanded {} Try.checked os 6 .any (Rows.fnExactSignOfSpec.pre6 enc Try.prog Try.f6 Rows.fnExactSignOfRow.domain false) (Rows.fnExactSignOfSpec.post enc Try.prog Try.f6 false true false false) := by
  refine returnsInHanded_of_change_sized (C := Try.checked) Sx.own_ started (by kernel_rfl) Try.func6
    (ChangeSpec.witness6 (enc := enc) (C := Try.checked) false ⟨#[], #[.agg #[.bool false, .int .u32 0, .int .u32 0, .int .u32 0, .int .u32 0, .int .u32 0, .int .u32 0]], []⟩ 8 (by kernel_rfl) (by kernel_rfl) (by kernel_rfl) (by kernel_rfl)) ?_
  intro W base args ds gs before hval0 hW hcnd hsz0 _
  exact Sx.law_post (fn := Try.f6) (s := Rows.fnExactSignOfSpec) (Sx.g6Fn 7) Sx.law6' (by kernel_rfl) Sx.laidOut_ (by kernel_rfl) rfl (fun H ds h => by
    match ds, h with
    | [d0], _ => rfl) rfl Try.underlying4 hval0 hW
theorem over : Rows.fnExactSignOfRow.holds Try.pinned (OpenSpec.ofChange Rows.fnExactSignOfSpec) :=
  OpenClaim.holds_of_wide 6 Try.f6 rfl rfl rfl rfl rfl rfl rfl ⟨rfl, rfl, rfl, rfl, rfl⟩ rfl rfl rfl rfl rfl (by kernel_rfl) Try.func6 facts_
    (of_decide_eq_true (by kernel_rfl)) (by unfold Func.isWrapper; first | (rw [if_pos (by decide +kernel)]; kernel_rfl) | (rw [if_neg (by decide +kernel)]; exact ⟨rfl, rfl⟩))
    (fun os started H enc _ => lifted os started H enc)
theorem proved : Rows.FnExactSignOfSaid := over
#print axioms proved
end Go.Proofs.Ytcccndkeaichcaa.fnExactSignOf
namespace Go.Proofs.Ytcccndkeaichcaa
/-- The row, under a short name, for the claim. -/
theorem fnExactSignOf_holds : Rows.FnExactSignOfSaid := fnExactSignOf.proved
end Go.Proofs.Ytcccndkeaichcaa
