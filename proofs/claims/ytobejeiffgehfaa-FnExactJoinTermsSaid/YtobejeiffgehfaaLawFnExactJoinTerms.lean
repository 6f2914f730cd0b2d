/- The row of FnExactJoinTerms. Printed by our own sx.py. -/
import Derived.Test.YtobejeiffgehfaaRows
import Derived.Test.YtobejeiffgehfaaTermE
import Derived.Test.YtobejeiffgehfaaSxS
import Derived.WalkKit
import Derived.ProofKit
import Derived.ChangeOld
import Derived.SizedLaws
import Derived.HandedShaped
namespace Go.Proofs.Ytobejeiffgehfaa.fnExactJoinTerms
open Go.ChangeShapes Go.WideShapes Go.ChangeAt Go.RowKit
set_option linter.unusedVariables false
set_option maxRecDepth 100000
theorem inPlace_ : ((Rows.fnExactJoinTermsRow).inPlace == Try.prog.inPlace 8) = true := by kernel_rfl
theorem unfollowed_ : ((Rows.fnExactJoinTermsRow).unfollowed == Try.prog.unfollowed 8) = true := by kernel_rfl
theorem recurses_ : ((Rows.fnExactJoinTermsRow).recurses == Try.prog.recurses 8) = true := by kernel_rfl
theorem named_ : ((Rows.fnExactJoinTermsRow).named == Try.prog.varsNamed 8) = true := by kernel_rfl
theorem facts_ : joinedFacts Try.prog 8 Try.f8 Rows.fnExactJoinTermsSpec Rows.fnExactJoinTermsRow = true :=
  Sx.facts_of (by kernel_rfl) Sx.laidOut_ Sx.mapsRowed_ (by kernel_rfl) (by kernel_rfl) (by kernel_rfl) inPlace_ unfollowed_ recurses_ named_ (by kernel_rfl) (by kernel_rfl) (by kernel_rfl) (by kernel_rfl) (by kernel_rfl)
    (by kernel_rfl) (by kernel_rfl) (by kernel_rfl) (by kernel_rfl) (by kernel_rfl) rfl Sx.heard_ Sx.mayEnter_ rfl Sx.liftsFinal_ Sx.make_ rfl rfl rfl (by kernel_rfl) (by kernel_rfl) (by kernel_rfl)
theorem lifted (os : Os) (started : os.Started) (H : Type) (enc : TypeId × Value → H) :
    ReturnsInHanded {} Try.checked os 8 .any (Rows.fnExactJoinTermsSpec.pre6 enc Try.prog Try.f8 Rows.fnExactJoinTermsRow.domain false) (Rows.fnExactJoinTermsSpec.post enc Try.prog Try.f8 false true false false) := by
  refine returnsInHanded_of_change_shaped (C := Try.checked) Sx.own_ started (by kernel_rfl) Try.func8
    (ChangeSpec.witness6 (enc := enc) (C := Try.checked) false ⟨#[], #[.slice none 0 0, .slice none 0 0], []⟩ 8 (by kernel_rfl) (by kernel_rfl) (by kernel_rfl) (by kernel_rfl)) ?_
  intro W base args ds gs before hval0 hW hcnd hsz0 hsh _
  exact Sx.law_postA (aps := [(.sl (.rc [.i8, .i16, .i16, .i64, .i64])), (.sl (.rc [.i8, .i16, .i16, .i64, .i64]))]) (fn := Try.f8) (s := Rows.fnExactJoinTermsSpec) (Sx.shaped_pos hsh) (Sx.g8Fn 1048577) Sx.law8' (by kernel_rfl) Sx.laidOut_ (by kernel_rfl) rfl (fun H ds h => by
    match ds, h with
    | [d0, d1], _ => rfl) rfl Try.underlying4 hval0 hW
theorem over : Rows.fnExactJoinTermsRow.holds Try.pinned (OpenSpec.ofChange Rows.fnExactJoinTermsSpec) :=
  OpenClaim.holds_of_wide 8 Try.f8 rfl rfl rfl rfl rfl rfl rfl ⟨rfl, rfl, rfl, rfl, rfl⟩ rfl rfl rfl rfl rfl (by kernel_rfl) Try.func8 facts_
    (of_decide_eq_true (by kernel_rfl)) (by unfold Func.isWrapper; first | (rw [if_pos (by decide +kernel)]; kernel_rfl) | (rw [if_neg (by decide +kernel)]; exact ⟨rfl, rfl⟩))
    (fun os started H enc _ => lifted os started H enc)
theorem proved : Rows.FnExactJoinTermsSaid := over
#print axioms proved
end Go.Proofs.Ytobejeiffgehfaa.fnExactJoinTerms
namespace Go.Proofs.Ytobejeiffgehfaa
/-- The row, under a short name, for the claim. -/
theorem fnExactJoinTerms_holds : Rows.FnExactJoinTermsSaid := fnExactJoinTerms.proved
end Go.Proofs.Ytobejeiffgehfaa
