/- The row of FnExactImageOf. Printed by our own sx.py. -/
import Derived.Test.YtbpljilgekneoaaRows
import Derived.Test.YtbpljilgekneoaaRatC
import Derived.Test.YtbpljilgekneoaaSxS
import Derived.WalkKit
import Derived.ProofKit
import Derived.ChangeOld
import Derived.SizedLaws
namespace Go.Proofs.Ytbpljilgekneoaa.fnExactImageOf
open Go.ChangeShapes Go.WideShapes Go.ChangeAt Go.RowKit
set_option linter.unusedVariables false
set_option maxRecDepth 100000
theorem inPlace_ : ((Rows.fnExactImageOfRow).inPlace == Try.prog.inPlace 9) = true := by kernel_rfl
theorem unfollowed_ : ((Rows.fnExactImageOfRow).unfollowed == Try.prog.unfollowed 9) = true := by kernel_rfl
theorem recurses_ : ((Rows.fnExactImageOfRow).recurses == Try.prog.recurses 9) = true := by kernel_rfl
theorem named_ : ((Rows.fnExactImageOfRow).named == Try.prog.varsNamed 9) = true := by kernel_rfl
theorem facts_ : joinedFacts Try.prog 9 Try.f9 Rows.fnExactImageOfSpec Rows.fnExactImageOfRow = true :=
  Sx.facts_of (by kernel_rfl) Sx.laidOut_ Sx.mapsRowed_ (by kernel_rfl) (by kernel_rfl) (by kernel_rfl) inPlace_ unfollowed_ recurses_ named_ (by kernel_rfl) (by kernel_rfl) (by kernel_rfl) (by kernel_rfl) (by kernel_rfl)
    (by kernel_rfl) (by kernel_rfl) (by kernel_rfl) (by kernel_rfl) (by kernel_rfl) rfl Sx.heard_ Sx.mayEnter_ rfl Sx.liftsFinal_ Sx.make_ rfl rfl rfl (by kernel_rfl) (by kernel_rfl) (by kernel_rfl)
theorem lifted (os : Os) (started : os.Started) (H : Type) (enc : TypeId × Value → H) :
    ReturnsInHanded {} Try.checked os 9 .any (Rows.fnExactImageOfSpec.pre6 enc Try.prog Try.f9 Rows.fnExactImageOfRow.domain false) (Rows.fnExactImageOfSpec.post enc Try.prog Try.f9 false true false false) := by
  refine returnsInHanded_of_change_sized (C := Try.checked) Sx.own_ started (by kernel_rfl) Try.func9
    (ChangeSpec.witness6 (enc := enc) (C := Try.checked) false ⟨#[], #[.agg #[.int .i64 0, .int .i64 0, .int .i64 0, .int .i64 0]], []⟩ 8 (by kernel_rfl) (by kernel_rfl) (by kernel_rfl) (by kernel_rfl)) ?_
  intro W base args ds gs before hval0 hW hcnd hsz0 _
  exact Sx.law_post (fn := Try.f9) (s := Rows.fnExactImageOfSpec) (Sx.g9Fn 2000000000000000000) Sx.law9' (by kernel_rfl) Sx.laidOut_ (by kernel_rfl) rfl (fun H ds h => by
    match ds, h with
    | [d0], _ => rfl) rfl Try.underlying4 hval0 hW
theorem over : Rows.fnExactImageOfRow.holds Try.pinned (OpenSpec.ofChange Rows.fnExactImageOfSpec) :=
  OpenClaim.holds_of_wide 9 Try.f9 rfl rfl rfl rfl rfl rfl rfl ⟨rfl, rfl, rfl, rfl, rfl⟩ rfl rfl rfl rfl rfl (by kernel_rfl) Try.func9 facts_
    (of_decide_eq_true (by kernel_rfl)) (by unfold Func.isWrapper; first | (rw [if_pos (by decide +kernel)]; kernel_rfl) | (rw [if_neg (by decide +kernel)]; exact ⟨rfl, rfl⟩))
    (fun os started H enc _ => lifted os started H enc)
theorem proved : Rows.FnExactImageOfSaid := over
#print axioms proved
end Go.Proofs.Ytbpljilgekneoaa.fnExactImageOf
namespace Go.Proofs.Ytbpljilgekneoaa
/-- The row, under a short name, for the claim. -/
theorem fnExactImageOf_holds : Rows.FnExactImageOfSaid := fnExactImageOf.proved
end Go.Proofs.Ytbpljilgekneoaa
