/- FnExactCodeName: for every int64 the program's CodeName and the reference's answer the same text. No condition. -/
import Derived.Test.YtkddpocobailgaaPFnExactCodeNamex1
namespace Go.Proofs.Ytkddpocobailgaa.Pure
open Go.RowKit Go.Proofs.Ytkddpocobailgaa.PFnExactCodeName Go.Proofs.YtkddpocobailgaaW.PrintWords Go.Proofs.YtkddpocobailgaaW.PrintLast

/-- YOURS: ∀ (a0 : Int), (Lit.int .i64 a0).wf = true → laws_FnExactCodeName.f a0 = some true
What it reaches (each with k first where it has rounds; `.mono`: more rounds tell the same; `.l0`, ..: its loops, with `.mono_l`): spec_l00In.f, spec_CodeName.f, impl_CodeName.f, laws_FnExactCodeName.f -/
theorem FnExactCodeName : laws_FnExactCodeName.Pure := by
  intro a0 _
  unfold laws_FnExactCodeName.f spec_CodeName.f impl_CodeName.f spec_l00In.f
  simp only [Option.bind_some, List.length_cons, List.length_nil]
  by_cases h0 : 0 ≤ a0
  · rw [if_pos (show a0 ≥ 0 from h0)]
    by_cases h8 : a0 ≤ 8
    · have h1 : ¬ a0 < 0 := by omega
      have h2 : ¬ a0 ≥ ((0 + 1 + 1 + 1 + 1 + 1 + 1 + 1 + 1 + 1 : Nat) : Int) := by omega
      have h3 : a0 < ((0 + 1 + 1 + 1 + 1 + 1 + 1 + 1 + 1 + 1 : Nat) : Int) := by omega
      simp only [h8, decide_true, Option.bind_some, if_true, h0, h3, if_neg h1, if_neg h2]
    · have h1 : ¬ a0 < 0 := by omega
      have h2 : a0 ≥ ((0 + 1 + 1 + 1 + 1 + 1 + 1 + 1 + 1 + 1 : Nat) : Int) := by omega
      simp only [h8, decide_false, Option.bind_some, Bool.false_eq_true, if_false, if_neg h1, if_pos h2, if_true]
  · rw [if_neg (show ¬ a0 ≥ 0 from h0)]
    have h1 : a0 < 0 := by omega
    simp only [Option.bind_some, Bool.false_eq_true, if_false, if_pos h1, if_true]

end Go.Proofs.Ytkddpocobailgaa.Pure
