/- The row of FnExactValueOfDigits. Printed by our own sx.py. -/
import Derived.Test.YtobejeiffgehfaaRows
import Derived.Test.YtobejeiffgehfaaTermJ
import Derived.Test.YtobejeiffgehfaaSxS
import Derived.WalkKit
import Derived.ProofKit
import Derived.ChangeOld
import Derived.SizedLaws
import Derived.HandedShaped
namespace Go.Proofs.Ytobejeiffgehfaa.fnExactValueOfDigits
open Go.ChangeShapes Go.WideShapes Go.ChangeAt Go.RowKit
set_option linter.unusedVariables false
set_option maxRecDepth 100000
theorem inPlace_ : ((Rows.fnExactValueOfDigitsRow).inPlace == Try.prog.inPlace 5) = true := by kernel_rfl
theorem unfollowed_ : ((Rows.fnExactValueOfDigitsRow).unfollowed == Try.prog.unfollowed 5) = true := by kernel_rfl
theorem recurses_ : ((Rows.fnExactValueOfDigitsRow).recurses == Try.prog.recurses 5) = true := by kernel_rfl
theorem named_ : ((Rows.fnExactValueOfDigitsRow).named == Try.prog.varsNamed 5) = true := by kernel_rfl
theorem facts_ : joinedFacts Try.prog 5 Try.f5 Rows.fnExactValueOfDigitsSpec Rows.fnExactValueOfDigitsRow = true :=
  Sx.facts_of (by kernel_rfl) Sx.laidOut_ Sx.mapsRowed_ (by kernel_rfl) (by kernel_rfl) (by kernel_rfl) inPlace_ unfollowed_ recurses_ named_ (by kernel_rfl) (by kernel_rfl) (by kernel_rfl) (by kernel_rfl) (by kernel_rfl)
    (by kernel_rfl) (by kernel_rfl) (by kernel_rfl) (by kernel_rfl) (by kernel_rfl) rfl Sx.heard_ Sx.mayEnter_ rfl Sx.liftsFinal_ Sx.make_ rfl rfl rfl (by kernel_rfl) (by kernel_rfl) (by kernel_rfl)
theorem lifted (os : Os) (started : os.Started) (H : Type) (enc : TypeId × Value → H) :
    ReturnsInHanded {} Try.checked os 5 .any (Rows.fnExactValueOfDigitsSpec.pre6 enc Try.prog Try.f5 Rows.fnExactValueOfDigitsRow.domain false) (Rows.fnExactValueOfDigitsSpec.post enc Try.prog Try.f5 false true false false) := by
  refine returnsInHanded_of_change_shaped (C := Try.checked) Sx.own_ started (by kernel_rfl) Try.func5
    (ChangeSpec.witness6 (enc := enc) (C := Try.checked) false ⟨#[], #[.agg #[.bool false, .int .u32 0, .int .u32 0, .int .u32 0, .int .u32 0, .int .u32 0, .int .u32 0], .slice none 0 0], []⟩ 8 (by kernel_rfl) (by kernel_rfl) (by kernel_rfl) (by kernel_rfl)) ?_
  intro W base args ds gs before hval0 hW hcnd hsz0 hsh _
  exact Sx.law_postA (aps := [(.flat (.vl (.agg [(.one .bool), (.seq (.int .u32) 6)]))), (.sl (.int .i8))]) (fn := Try.f5) (s := Rows.fnExactValueOfDigitsSpec) (Sx.shaped_pos hsh) (Sx.g5Fn 1048577) Sx.lawValue' (by kernel_rfl) Sx.laidOut_ (by kernel_rfl) rfl (fun H ds h => by
    match ds, h with
    | [d0, d1], _ => rfl) rfl Try.underlying4 hval0 hW
theorem over : Rows.fnExactValueOfDigitsRow.holds Try.pinned (OpenSpec.ofChange Rows.fnExactValueOfDigitsSpec) :=
  OpenClaim.holds_of_wide 5 Try.f5 rfl rfl rfl rfl rfl rfl rfl ⟨rfl, rfl, rfl, rfl, rfl⟩ rfl rfl rfl rfl rfl (by kernel_rfl) Try.func5 facts_
    (of_decide_eq_true (by kernel_rfl)) (by unfold Func.isWrapper; first | (rw [if_pos (by decide +kernel)]; kernel_rfl) | (rw [if_neg (by decide +kernel)]; exact ⟨rfl, rfl⟩))
    (fun os started H enc _ => lifted os started H enc)
theorem proved : Rows.FnExactValueOfDigitsSaid := over
#print axioms proved
end Go.Proofs.Ytobejeiffgehfaa.fnExactValueOfDigits
namespace Go.Proofs.Ytobejeiffgehfaa
/-- The row, under a short name, for the claim. -/
theorem fnExactValueOfDigits_holds : Rows.FnExactValueOfDigitsSaid := fnExactValueOfDigits.proved
end Go.Proofs.Ytobejeiffgehfaa
