import Derived.Test.YtcccndkeaichcaaPureA
namespace Go.Proofs.Ytcccndkeaichcaa.Sx
open Go
set_option linter.unusedVariables false
set_option linter.unusedSimpArgs false
set_option maxRecDepth 100000
theorem g68Eq {α : Type} (n : Nat) {l : List Int} (hl : l.length = 6) (k : Bool → Option α) : g68 (n + 7) l l k = k true := by
  obtain ⟨a, b, c, d, e, f, rfl⟩ := six hl
  have h : g68 (n + 7) [a, b, c, d, e, f] [a, b, c, d, e, f] k = cond (a != a) (k false) (cond (b != b) (k false) (cond (c != c) (k false) (cond (d != d) (k false) (cond (e != e) (k false) (cond (f != f) (k false) (k true)))))) := by kernel_rfl
  rw [h]
  simp only [bne_self_eq_false, cond_false]
theorem g27Eq {α : Type} (n : Nat) (q : Bool) {l : List Int} (hl : l.length = 6) (k : Bool → Option α) : g27 (n + 7) q l q l k = k true := by
  simp only [g27, g27b, g68Eq n hl, beq_self_eq_true, Bool.not_true, cond_false]
theorem g27At (q : Bool) {l : List Int} (hl : l.length = 6) {α : Type} (k : Bool → Option α) : g27 7 q l q l k = k true := g27Eq 0 q hl k
theorem g27Zero (q : Bool) {α : Type} (k : Bool → Option α) : g27 7 q [0, 0, 0, 0, 0, 0] q [0, 0, 0, 0, 0, 0] k = k true := g27Eq 0 q rfl k
theorem law6 (q : Bool) {l : List Int} (hl : l.length = 6) {α : Type} (k : Bool → Option α) : g6 7 q l k = k true := by
  simp only [g6, g6b, g23Eq 0 q hl, g47, g47b, g64, g64b, g24, g24b, g48, g48b, g76, g76b, g72, g72b]
  generalize eqLI l [0, 0, 0, 0, 0, 0] = e
  cases q <;> cases e <;> rfl
theorem law6' (ls : List Lf) (hw : WT g6tp ls) : g6K (g6 7) ls (fun v _ _ => saysTrue v) = some () := law6 _ hw.1.2.1.1 _
theorem law7 (q : Bool) {l : List Int} (hl : l.length = 6) {α : Type} (k : Bool → Option α) : g7 7 q l k = k true := by
  simp only [g7, g7b, g23Eq 0 q hl, g49, g49b, g64, g64b, g24, g24b, g50, g50b, g91, g91b, g92, g92b, g71, g71b, g101, g101b, g67, g67b]
  generalize eqLI l [0, 0, 0, 0, 0, 0] = e
  cases q <;> cases e <;> simp only [cond_true, cond_false, Bool.not_true, Bool.not_false, g27At _ hl, g27Zero, bne_self_eq_false]
theorem law7' (ls : List Lf) (hw : WT g7tp ls) : g7K (g7 7) ls (fun v _ _ => saysTrue v) = some () := law7 _ hw.1.2.1.1 _
theorem law4 (p : Int) {α : Type} (k : Bool → Option α) : g4 7 p k = k true := by
  simp only [g4, g4b, g25, g25b, g66, g66b, g26, g26b, g71, g71b, g67, g67b, g101, g101b]
  generalize decide (p < 0) = q
  have hs : ∀ x y : Int, List.set (List.set [0, 0, 0, 0, 0, 0] 0 x) 1 y = [x, y, 0, 0, 0, 0] := fun _ _ => rfl
  simp only [hs]
  cases q
  · simp only [cond_false]
    rw [g27At false (by rfl)]; rfl
  · simp only [cond_true]
    rw [g27At _ (by rfl)]; rfl
theorem law4' (ls : List Lf) (hw : WT g4tp ls) : g4K (g4 7) ls (fun v _ _ => saysTrue v) = some () := law4 _ _
end Go.Proofs.Ytcccndkeaichcaa.Sx
