/- The row of FnExactRootWide. Printed by our own sx.py. -/
import Derived.Test.YtcccndkeaichcaaRows
import Derived.Test.YtcccndkeaichcaaPureS
import Derived.Test.YtcccndkeaichcaaSxS
import Derived.WalkKit
import Derived.ProofKit
import Derived.ChangeOld
import Derived.SizedLaws
namespace Go.Proofs.Ytcccndkeaichcaa.fnExactRootWide
open Go.ChangeShapes Go.WideShapes Go.ChangeAt Go.RowKit
set_option linter.unusedVariables false
set_option maxRecDepth 100000
theorem inPlace_ : ((Rows.fnExactRootWideRow).inPlace == Try.prog.inPlace 19) = true := by kernel_rfl
theorem unfollowed_ : ((Rows.fnExactRootWideRow).unfollowed == Try.prog.unfollowed 19) = true := by kernel_rfl
theorem recurses_ : ((Rows.fnExactRootWideRow).recurses == Try.prog.recurses 19) = true := by kernel_rfl
theorem named_ : ((Rows.fnExactRootWideRow).named == Try.prog.varsNamed 19) = true := by kernel_rfl
theorem facts_ : joinedFacts Try.prog 19 Try.f19 Rows.fnExactRootWideSpec Rows.fnExactRootWideRow = true :=
  Sx.facts_of (by kernel_rfl) Sx.laidOut_ Sx.mapsRowed_ (by kernel_rfl) (by kernel_rfl) (by kernel_rfl) inPlace_ unfollowed_ recurses_ named_ (by kernel_rfl) (by kernel_rfl) (by kernel_rfl) (by kernel_rfl) (by kernel_rfl)
    (by kernel_rfl) (by kernel_rfl) (by kernel_rfl) (by kernel_rfl) (by kernel_rfl) rfl Sx.heard_ Sx.mayEnter_ rfl Sx.liftsFinal_ Sx.make_ rfl rfl rfl (by kernel_rfl) (by kernel_rfl) (by kernel_rfl)
theorem lifted (os : Os) (started : os.Started) (H : Type) (enc : TypeId × Value → H) :
    ReturnsInHanded {} Try.checked os 19 .any (Rows.fnExactRootWideSpec.pre6 enc Try.prog Try.f19 Rows.fnExactRootWideRow.domain false) (Rows.fnExactRootWideSpec.post enc Try.prog Try.f19 false true false false) := by
  refine returnsInHanded_of_change_sized (C := Try.checked) Sx.own_ started (by kernel_rfl) Try.func19
    (ChangeSpec.witness6 (enc := enc) (C := Try.checked) false ⟨#[], #[.agg #[.bool false, .int .u32 0, .int .u32 0, .int .u32 0, .int .u32 0, .int .u32 0, .int .u32 0]], []⟩ 8 (by kernel_rfl) (by kernel_rfl) (by kernel_rfl) (by kernel_rfl)) ?_
  intro W base args ds gs before hval0 hW hcnd hsz0 _
  exact Sx.law_post (fn := Try.f19) (s := Rows.fnExactRootWideSpec) (Sx.g19Fn 140) Sx.law19' (by kernel_rfl) Sx.laidOut_ (by kernel_rfl) rfl (fun H ds h => by
    match ds, h with
    | [d0], _ => rfl) rfl Try.underlying4 hval0 hW
theorem over : Rows.fnExactRootWideRow.holds Try.pinned (OpenSpec.ofChange Rows.fnExactRootWideSpec) :=
  OpenClaim.holds_of_wide 19 Try.f19 rfl rfl rfl rfl rfl rfl rfl ⟨rfl, rfl, rfl, rfl, rfl⟩ rfl rfl rfl rfl rfl (by kernel_rfl) Try.func19 facts_
    (of_decide_eq_true (by kernel_rfl)) (by unfold Func.isWrapper; first | (rw [if_pos (by decide +kernel)]; kernel_rfl) | (rw [if_neg (by decide +kernel)]; exact ⟨rfl, rfl⟩))
    (fun os started H enc _ => lifted os started H enc)
theorem proved : Rows.FnExactRootWideSaid := over
#print axioms proved
end Go.Proofs.Ytcccndkeaichcaa.fnExactRootWide
namespace Go.Proofs.Ytcccndkeaichcaa
/-- The row, under a short name, for the claim. -/
theorem fnExactRootWide_holds : Rows.FnExactRootWideSaid := fnExactRootWide.proved
end Go.Proofs.Ytcccndkeaichcaa
