import Derived.Test.YtcccndkeaichcaaPureB
namespace Go.Proofs.Ytcccndkeaichcaa.Sx
open Go
set_option linter.unusedVariables false
set_option linter.unusedSimpArgs false
set_option maxRecDepth 100000
def cmp1 (x y r : Int) : Int := if x < y then -1 else if y < x then 1 else r
def cmpL : List Int → List Int → Int
  | x :: l, y :: m => if cmpL l m = 0 then cmp1 x y 0 else cmpL l m
  | _, _ => 0
def cmp6 (l m : List Int) : Int := cmp1 (l.getD 5 0) (m.getD 5 0) (cmp1 (l.getD 4 0) (m.getD 4 0) (cmp1 (l.getD 3 0) (m.getD 3 0) (cmp1 (l.getD 2 0) (m.getD 2 0) (cmp1 (l.getD 1 0) (m.getD 1 0) (cmp1 (l.getD 0 0) (m.getD 0 0) 0)))))
theorem stepSpec {α : Type} (x y r : Int) (k : Int → Option α) : cond (decide (x < y)) (k (-1)) (cond (decide (x > y)) (k 1) (k r)) = k (cmp1 x y r) := by
  unfold cmp1
  by_cases h : x < y
  · simp [h]
  · by_cases h2 : y < x
    · simp [h, h2]
    · simp [h, h2]
theorem stepImpl {α : Type} (x y r : Int) (k : Int → Option α) : cond (x != y) (cond (decide (x < y)) (k (-1)) (k 1)) (k r) = k (cmp1 x y r) := by
  unfold cmp1
  by_cases h : x < y
  · rw [show (x != y) = true by simpa using (show x ≠ y by omega)]; simp [h]
  · by_cases h2 : y < x
    · rw [show (x != y) = true by simpa using (show x ≠ y by omega)]; simp [h, h2]
    · simp [h, h2, show x = y by omega]
theorem g115Eq {α : Type} (n : Nat) {l m : List Int} (hl : l.length = 6) (hm : m.length = 6) (k : Int → Option α) : g115 (n + 7) l m k = k (cmp6 l m) := by
  obtain ⟨a, b, c, d, e, f, rfl⟩ := six hl
  obtain ⟨a', b', c', d', e', f', rfl⟩ := six hm
  have h : g115 (n + 7) [a, b, c, d, e, f] [a', b', c', d', e', f'] k = cond (decide (f < f')) (k (-1)) (cond (decide (f > f')) (k 1) (cond (decide (e < e')) (k (-1)) (cond (decide (e > e')) (k 1)
    (cond (decide (d < d')) (k (-1)) (cond (decide (d > d')) (k 1) (cond (decide (c < c')) (k (-1)) (cond (decide (c > c')) (k 1) (cond (decide (b < b')) (k (-1)) (cond (decide (b > b')) (k 1)
    (cond (decide (a < a')) (k (-1)) (cond (decide (a > a')) (k 1) (k 0)))))))))))) := by kernel_rfl
  rw [h]
  simp only [stepSpec]
  rfl
theorem g111Eq {α : Type} (n : Nat) {l m : List Int} (hl : l.length = 6) (hm : m.length = 6) (k : Int → Option α) : g111 (n + 7) l m k = k (cmp6 l m) := by
  obtain ⟨a, b, c, d, e, f, rfl⟩ := six hl
  obtain ⟨a', b', c', d', e', f', rfl⟩ := six hm
  have h : g111 (n + 7) [a, b, c, d, e, f] [a', b', c', d', e', f'] k = cond (f != f') (cond (decide (f < f')) (k (-1)) (k 1)) (cond (e != e') (cond (decide (e < e')) (k (-1)) (k 1))
    (cond (d != d') (cond (decide (d < d')) (k (-1)) (k 1)) (cond (c != c') (cond (decide (c < c')) (k (-1)) (k 1)) (cond (b != b') (cond (decide (b < b')) (k (-1)) (k 1))
    (cond (a != a') (cond (decide (a < a')) (k (-1)) (k 1)) (k 0)))))) := by kernel_rfl
  rw [h]
  simp only [stepImpl]
  rfl
theorem g115At {l m : List Int} (hl : l.length = 6) (hm : m.length = 6) {α : Type} (k : Int → Option α) : g115 7 l m k = k (cmp6 l m) := g115Eq 0 hl hm k
theorem g111At {l m : List Int} (hl : l.length = 6) (hm : m.length = 6) {α : Type} (k : Int → Option α) : g111 7 l m k = k (cmp6 l m) := g111Eq 0 hl hm k
theorem g23At (q : Bool) {l : List Int} (hl : l.length = 6) {α : Type} (k : List Int → Option α) : g23 7 q l k = k l := g23Eq 0 q hl k
theorem law9 (q : Bool) {l : List Int} (hl : l.length = 6) (r : Bool) {m : List Int} (hm : m.length = 6) {α : Type} (k : Bool → Option α) : g9 7 q l r m k = k true := by
  simp only [g9, g9b, g23At q hl, g23At r hm, g38, g38b, g82, g82b, g64, g64b, g24, g24b, g45, g45b, g89, g89b, g115At hl hm, g115At hm hl, g111At hl hm, g111At hm hl]
  generalize eqLI l [0, 0, 0, 0, 0, 0] = e
  generalize eqLI m [0, 0, 0, 0, 0, 0] = f
  cases q <;> cases e <;> cases r <;> cases f <;> simp only [cond_true, cond_false, Bool.not_true, Bool.not_false, beq_self_eq_true, bne_self_eq_false] <;> rfl
theorem law9' (ls : List Lf) (hw : WT g9tp ls) : g9K (g9 7) ls (fun v _ _ => saysTrue v) = some () := law9 _ hw.1.2.1.1 _ hw.2.1.2.1.1 _
end Go.Proofs.Ytcccndkeaichcaa.Sx
