/- The row of FnExactReadWide. Printed by our own sx.py. -/
import Derived.Test.YtcccndkeaichcaaRows
import Derived.Test.YtcccndkeaichcaaPureU
import Derived.Test.YtcccndkeaichcaaSxS
import Derived.WalkKit
import Derived.ProofKit
import Derived.ChangeOld
import Derived.SizedLaws
namespace Go.Proofs.Ytcccndkeaichcaa.fnExactReadWide
open Go.ChangeShapes Go.WideShapes Go.ChangeAt Go.RowKit
set_option linter.unusedVariables false
set_option maxRecDepth 100000
theorem inPlace_ : ((Rows.fnExactReadWideRow).inPlace == Try.prog.inPlace 18) = true := by kernel_rfl
theorem unfollowed_ : ((Rows.fnExactReadWideRow).unfollowed == Try.prog.unfollowed 18) = true := by kernel_rfl
theorem recurses_ : ((Rows.fnExactReadWideRow).recurses == Try.prog.recurses 18) = true := by kernel_rfl
theorem named_ : ((Rows.fnExactReadWideRow).named == Try.prog.varsNamed 18) = true := by kernel_rfl
theorem facts_ : joinedFacts Try.prog 18 Try.f18 Rows.fnExactReadWideSpec Rows.fnExactReadWideRow = true :=
  Sx.facts_of (by kernel_rfl) Sx.laidOut_ Sx.mapsRowed_ (by kernel_rfl) (by kernel_rfl) (by kernel_rfl) inPlace_ unfollowed_ recurses_ named_ (by kernel_rfl) (by kernel_rfl) (by kernel_rfl) (by kernel_rfl) (by kernel_rfl)
    (by kernel_rfl) (by kernel_rfl) (by kernel_rfl) (by kernel_rfl) (by kernel_rfl) rfl Sx.heard_ Sx.mayEnter_ rfl Sx.liftsFinal_ Sx.make_ rfl rfl rfl (by kernel_rfl) (by kernel_rfl) (by kernel_rfl)
theorem lifted (os : Os) (started : os.Started) (H : Type) (enc : TypeId × Value → H) :
    ReturnsInHanded {} Try.checked os 18 .any (Rows.fnExactReadWideSpec.pre6 enc Try.prog Try.f18 Rows.fnExactReadWideRow.domain false) (Rows.fnExactReadWideSpec.post enc Try.prog Try.f18 false true false false) := by
  refine returnsInHanded_of_change_sized (C := Try.checked) Sx.own_ started (by kernel_rfl) Try.func18
    (ChangeSpec.witness6 (enc := enc) (C := Try.checked) false ⟨#[], #[.string ⟨#[]⟩], []⟩ 8 (by kernel_rfl) (by kernel_rfl) (by kernel_rfl) (by kernel_rfl)) ?_
  intro W base args ds gs before hval0 hW hcnd hsz0 _
  exact Sx.law_post (fn := Try.f18) (s := Rows.fnExactReadWideSpec) (Sx.g18Fn 1100007) Sx.law18' (by kernel_rfl) Sx.laidOut_ (by kernel_rfl) rfl (fun H ds h => by
    match ds, h with
    | [d0], _ => rfl) rfl Try.underlying4 hval0 hW
theorem over : Rows.fnExactReadWideRow.holds Try.pinned (OpenSpec.ofChange Rows.fnExactReadWideSpec) :=
  OpenClaim.holds_of_wide 18 Try.f18 rfl rfl rfl rfl rfl rfl rfl ⟨rfl, rfl, rfl, rfl, rfl⟩ rfl rfl rfl rfl rfl (by kernel_rfl) Try.func18 facts_
    (of_decide_eq_true (by kernel_rfl)) (by unfold Func.isWrapper; first | (rw [if_pos (by decide +kernel)]; kernel_rfl) | (rw [if_neg (by decide +kernel)]; exact ⟨rfl, rfl⟩))
    (fun os started H enc _ => lifted os started H enc)
theorem proved : Rows.FnExactReadWideSaid := over
#print axioms proved
end Go.Proofs.Ytcccndkeaichcaa.fnExactReadWide
namespace Go.Proofs.Ytcccndkeaichcaa
/-- The row, under a short name, for the claim. -/
theorem fnExactReadWide_holds : Rows.FnExactReadWideSaid := fnExactReadWide.proved
end Go.Proofs.Ytcccndkeaichcaa
