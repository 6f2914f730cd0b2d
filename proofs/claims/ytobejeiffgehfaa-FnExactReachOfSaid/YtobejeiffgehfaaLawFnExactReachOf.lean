/- The row of FnExactReachOf. Printed by our own sx.py. -/
import Derived.Test.YtobejeiffgehfaaRows
import Derived.Test.YtobejeiffgehfaaTermG
import Derived.Test.YtobejeiffgehfaaSxS
import Derived.WalkKit
import Derived.ProofKit
import Derived.ChangeOld
import Derived.SizedLaws
import Derived.HandedShaped
namespace Go.Proofs.Ytobejeiffgehfaa.fnExactReachOf
open Go.ChangeShapes Go.WideShapes Go.ChangeAt Go.RowKit
set_option linter.unusedVariables false
set_option maxRecDepth 100000
theorem inPlace_ : ((Rows.fnExactReachOfRow).inPlace == Try.prog.inPlace 7) = true := by kernel_rfl
theorem unfollowed_ : ((Rows.fnExactReachOfRow).unfollowed == Try.prog.unfollowed 7) = true := by kernel_rfl
theorem recurses_ : ((Rows.fnExactReachOfRow).recurses == Try.prog.recurses 7) = true := by kernel_rfl
theorem named_ : ((Rows.fnExactReachOfRow).named == Try.prog.varsNamed 7) = true := by kernel_rfl
theorem facts_ : joinedFacts Try.prog 7 Try.f7 Rows.fnExactReachOfSpec Rows.fnExactReachOfRow = true :=
  Sx.facts_of (by kernel_rfl) Sx.laidOut_ Sx.mapsRowed_ (by kernel_rfl) (by kernel_rfl) (by kernel_rfl) inPlace_ unfollowed_ recurses_ named_ (by kernel_rfl) (by kernel_rfl) (by kernel_rfl) (by kernel_rfl) (by kernel_rfl)
    (by kernel_rfl) (by kernel_rfl) (by kernel_rfl) (by kernel_rfl) (by kernel_rfl) rfl Sx.heard_ Sx.mayEnter_ rfl Sx.liftsFinal_ Sx.make_ rfl rfl rfl (by kernel_rfl) (by kernel_rfl) (by kernel_rfl)
theorem lifted (os : Os) (started : os.Started) (H : Type) (enc : TypeId × Value → H) :
    ReturnsInHanded {} Try.checked os 7 .any (Rows.fnExactReachOfSpec.pre6 enc Try.prog Try.f7 Rows.fnExactReachOfRow.domain false) (Rows.fnExactReachOfSpec.post enc Try.prog Try.f7 false true false false) := by
  refine returnsInHanded_of_change_shaped (C := Try.checked) Sx.own_ started (by kernel_rfl) Try.func7
    (ChangeSpec.witness6 (enc := enc) (C := Try.checked) false ⟨#[], #[.slice none 0 0, .int .i64 0], []⟩ 8 (by kernel_rfl) (by kernel_rfl) (by kernel_rfl) (by kernel_rfl)) ?_
  intro W base args ds gs before hval0 hW hcnd hsz0 hsh _
  exact Sx.law_postA (aps := [(.sl (.rc [.i8, .i16, .i16, .i64, .i64])), (.flat (.vl (.sv (.int .i64))))]) (fn := Try.f7) (s := Rows.fnExactReachOfSpec) (Sx.shaped_pos hsh) (Sx.g7Fn 1048577) Sx.law7' (by kernel_rfl) Sx.laidOut_ (by kernel_rfl) rfl (fun H ds h => by
    match ds, h with
    | [d0, d1], _ => rfl) rfl Try.underlying4 hval0 hW
theorem over : Rows.fnExactReachOfRow.holds Try.pinned (OpenSpec.ofChange Rows.fnExactReachOfSpec) :=
  OpenClaim.holds_of_wide 7 Try.f7 rfl rfl rfl rfl rfl rfl rfl ⟨rfl, rfl, rfl, rfl, rfl⟩ rfl rfl rfl rfl rfl (by kernel_rfl) Try.func7 facts_
    (of_decide_eq_true (by kernel_rfl)) (by unfold Func.isWrapper; first | (rw [if_pos (by decide +kernel)]; kernel_rfl) | (rw [if_neg (by decide +kernel)]; exact ⟨rfl, rfl⟩))
    (fun os started H enc _ => lifted os started H enc)
theorem proved : Rows.FnExactReachOfSaid := over
#print axioms proved
end Go.Proofs.Ytobejeiffgehfaa.fnExactReachOf
namespace Go.Proofs.Ytobejeiffgehfaa
/-- The row, under a short name, for the claim. -/
theorem fnExactReachOf_holds : Rows.FnExactReachOfSaid := fnExactReachOf.proved
end Go.Proofs.Ytobejeiffgehfaa
