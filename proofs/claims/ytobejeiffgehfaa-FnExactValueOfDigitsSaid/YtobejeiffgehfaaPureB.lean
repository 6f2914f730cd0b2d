import Derived.Test.YtobejeiffgehfaaPureA
namespace Go.Proofs.Ytobejeiffgehfaa.Sx
open Go
set_option linter.unusedVariables false
set_option linter.unusedSimpArgs false
set_option maxRecDepth 100000
theorem g57Eq {α : Type} (n : Nat) {l : List Int} (hl : l.length = 6) (k : Bool → Option α) : g57 (n + 7) l l k = k true := by
  obtain ⟨a, b, c, d, e, f, rfl⟩ := six hl
  have h : g57 (n + 7) [a, b, c, d, e, f] [a, b, c, d, e, f] k = cond (a != a) (k false) (cond (b != b) (k false) (cond (c != c) (k false) (cond (d != d) (k false) (cond (e != e) (k false) (cond (f != f) (k false) (k true)))))) := by kernel_rfl
  rw [h]
  simp only [bne_self_eq_false, cond_false]
theorem g22Eq {α : Type} (n : Nat) (q : Bool) {l : List Int} (hl : l.length = 6) (k : Bool → Option α) : g22 (n + 7) q l q l k = k true := by
  simp only [g22, g22b, g57Eq n hl, beq_self_eq_true, Bool.not_true, cond_false]
theorem g22At (q : Bool) {l : List Int} (hl : l.length = 6) {α : Type} (k : Bool → Option α) : g22 7 q l q l k = k true := g22Eq 0 q hl k
theorem g22Zero (q : Bool) {α : Type} (k : Bool → Option α) : g22 7 q [0, 0, 0, 0, 0, 0] q [0, 0, 0, 0, 0, 0] k = k true := g22Eq 0 q rfl k
end Go.Proofs.Ytobejeiffgehfaa.Sx
