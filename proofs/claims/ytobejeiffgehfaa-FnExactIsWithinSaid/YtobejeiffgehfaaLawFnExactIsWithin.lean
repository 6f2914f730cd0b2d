/- The row of FnExactIsWithin. Printed by our own sx.py. -/
import Derived.Test.YtobejeiffgehfaaRows
import Derived.Test.YtobejeiffgehfaaTermI
import Derived.Test.YtobejeiffgehfaaSxS
import Derived.WalkKit
import Derived.ProofKit
import Derived.ChangeOld
import Derived.SizedLaws
import Derived.HandedShaped
namespace Go.Proofs.Ytobejeiffgehfaa.fnExactIsWithin
open Go.ChangeShapes Go.WideShapes Go.ChangeAt Go.RowKit
set_option linter.unusedVariables false
set_option maxRecDepth 100000
theorem inPlace_ : ((Rows.fnExactIsWithinRow).inPlace == Try.prog.inPlace 6) = true := by kernel_rfl
theorem unfollowed_ : ((Rows.fnExactIsWithinRow).unfollowed == Try.prog.unfollowed 6) = true := by kernel_rfl
theorem recurses_ : ((Rows.fnExactIsWithinRow).recurses == Try.prog.recurses 6) = true := by kernel_rfl
theorem named_ : ((Rows.fnExactIsWithinRow).named == Try.prog.varsNamed 6) = true := by kernel_rfl
theorem facts_ : joinedFacts Try.prog 6 Try.f6 Rows.fnExactIsWithinSpec Rows.fnExactIsWithinRow = true :=
  Sx.facts_of (by kernel_rfl) Sx.laidOut_ Sx.mapsRowed_ (by kernel_rfl) (by kernel_rfl) (by kernel_rfl) inPlace_ unfollowed_ recurses_ named_ (by kernel_rfl) (by kernel_rfl) (by kernel_rfl) (by kernel_rfl) (by kernel_rfl)
    (by kernel_rfl) (by kernel_rfl) (by kernel_rfl) (by kernel_rfl) (by kernel_rfl) rfl Sx.heard_ Sx.mayEnter_ rfl Sx.liftsFinal_ Sx.make_ rfl rfl rfl (by kernel_rfl) (by kernel_rfl) (by kernel_rfl)
theorem lifted (os : Os) (started : os.Started) (H : Type) (enc : TypeId × Value → H) :
    ReturnsInHanded {} Try.checked os 6 .any (Rows.fnExactIsWithinSpec.pre6 enc Try.prog Try.f6 Rows.fnExactIsWithinRow.domain false) (Rows.fnExactIsWithinSpec.post enc Try.prog Try.f6 false true false false) := by
  refine returnsInHanded_of_change_shaped (C := Try.checked) Sx.own_ started (by kernel_rfl) Try.func6
    (ChangeSpec.witness6 (enc := enc) (C := Try.checked) false ⟨#[], #[.agg #[.bool false, .int .u32 0, .int .u32 0, .int .u32 0, .int .u32 0, .int .u32 0, .int .u32 0], .agg #[.bool false, .int .u32 0, .int .u32 0, .int .u32 0, .int .u32 0, .int .u32 0, .int .u32 0], .int .i64 0, .int .i64 0], []⟩ 8 (by kernel_rfl) (by kernel_rfl) (by kernel_rfl) (by kernel_rfl)) ?_
  intro W base args ds gs before hval0 hW hcnd hsz0 hsh _
  exact Sx.law_post (fn := Try.f6) (s := Rows.fnExactIsWithinSpec) (Sx.g6Fn 47) Sx.lawWithin' (by kernel_rfl) Sx.laidOut_ (by kernel_rfl) rfl (fun H ds h => by
    match ds, h with
    | [d0, d1, d2, d3], _ => rfl) rfl Try.underlying4 hval0 hW
theorem over : Rows.fnExactIsWithinRow.holds Try.pinned (OpenSpec.ofChange Rows.fnExactIsWithinSpec) :=
  OpenClaim.holds_of_wide 6 Try.f6 rfl rfl rfl rfl rfl rfl rfl ⟨rfl, rfl, rfl, rfl, rfl⟩ rfl rfl rfl rfl rfl (by kernel_rfl) Try.func6 facts_
    (of_decide_eq_true (by kernel_rfl)) (by unfold Func.isWrapper; first | (rw [if_pos (by decide +kernel)]; kernel_rfl) | (rw [if_neg (by decide +kernel)]; exact ⟨rfl, rfl⟩))
    (fun os started H enc _ => lifted os started H enc)
theorem proved : Rows.FnExactIsWithinSaid := over
#print axioms proved
end Go.Proofs.Ytobejeiffgehfaa.fnExactIsWithin
namespace Go.Proofs.Ytobejeiffgehfaa
/-- The row, under a short name, for the claim. -/
theorem fnExactIsWithin_holds : Rows.FnExactIsWithinSaid := fnExactIsWithin.proved
end Go.Proofs.Ytobejeiffgehfaa
