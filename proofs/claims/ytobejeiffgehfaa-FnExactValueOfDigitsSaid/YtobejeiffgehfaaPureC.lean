import Derived.Test.YtobejeiffgehfaaPureB
namespace Go.Proofs.Ytobejeiffgehfaa.Sx
open Go
set_option linter.unusedVariables false
set_option linter.unusedSimpArgs false
set_option maxRecDepth 100000
def cmp1 (x y r : Int) : Int := if x < y then -1 else if y < x then 1 else r
def cmpL : List Int → List Int → Int
  | x :: l, y :: m => if cmpL l m = 0 then cmp1 x y 0 else cmpL l m
  | _, _ => 0
def cmp6 (l m : List Int) : Int := cmp1 (l.getD 5 0) (m.getD 5 0) (cmp1 (l.getD 4 0) (m.getD 4 0) (cmp1 (l.getD 3 0) (m.getD 3 0) (cmp1 (l.getD 2 0) (m.getD 2 0) (cmp1 (l.getD 1 0) (m.getD 1 0) (cmp1 (l.getD 0 0) (m.getD 0 0) 0)))))
theorem stepSpec {α : Type} (x y r : Int) (k : Int → Option α) : cond (decide (x < y)) (k (-1)) (cond (decide (x > y)) (k 1) (k r)) = k (cmp1 x y r) := by
  unfold cmp1
  by_cases h : x < y
  · simp [h]
  · by_cases h2 : y < x
    · simp [h, h2]
    · simp [h, h2]
theorem stepImpl {α : Type} (x y r : Int) (k : Int → Option α) : cond (x != y) (cond (decide (x < y)) (k (-1)) (k 1)) (k r) = k (cmp1 x y r) := by
  unfold cmp1
  by_cases h : x < y
  · rw [show (x != y) = true by simpa using (show x ≠ y by omega)]; simp [h]
  · by_cases h2 : y < x
    · rw [show (x != y) = true by simpa using (show x ≠ y by omega)]; simp [h, h2]
    · simp [h, h2, show x = y by omega]
theorem g90Eq {α : Type} (n : Nat) {l m : List Int} (hl : l.length = 6) (hm : m.length = 6) (k : Int → Option α) : g90 (n + 7) l m k = k (cmp6 l m) := by
  obtain ⟨a, b, c, d, e, f, rfl⟩ := six hl
  obtain ⟨a', b', c', d', e', f', rfl⟩ := six hm
  have h : g90 (n + 7) [a, b, c, d, e, f] [a', b', c', d', e', f'] k = cond (decide (f < f')) (k (-1)) (cond (decide (f > f')) (k 1) (cond (decide (e < e')) (k (-1)) (cond (decide (e > e')) (k 1)
    (cond (decide (d < d')) (k (-1)) (cond (decide (d > d')) (k 1) (cond (decide (c < c')) (k (-1)) (cond (decide (c > c')) (k 1) (cond (decide (b < b')) (k (-1)) (cond (decide (b > b')) (k 1)
    (cond (decide (a < a')) (k (-1)) (cond (decide (a > a')) (k 1) (k 0)))))))))))) := by kernel_rfl
  rw [h]
  simp only [stepSpec]
  rfl
theorem g70Eq {α : Type} (n : Nat) {l m : List Int} (hl : l.length = 6) (hm : m.length = 6) (k : Int → Option α) : g70 (n + 7) l m k = k (cmp6 l m) := by
  obtain ⟨a, b, c, d, e, f, rfl⟩ := six hl
  obtain ⟨a', b', c', d', e', f', rfl⟩ := six hm
  have h : g70 (n + 7) [a, b, c, d, e, f] [a', b', c', d', e', f'] k = cond (f != f') (cond (decide (f < f')) (k (-1)) (k 1)) (cond (e != e') (cond (decide (e < e')) (k (-1)) (k 1))
    (cond (d != d') (cond (decide (d < d')) (k (-1)) (k 1)) (cond (c != c') (cond (decide (c < c')) (k (-1)) (k 1)) (cond (b != b') (cond (decide (b < b')) (k (-1)) (k 1))
    (cond (a != a') (cond (decide (a < a')) (k (-1)) (k 1)) (k 0)))))) := by kernel_rfl
  rw [h]
  simp only [stepImpl]
  rfl
theorem g90At {l m : List Int} (hl : l.length = 6) (hm : m.length = 6) {α : Type} (k : Int → Option α) : g90 7 l m k = k (cmp6 l m) := g90Eq 0 hl hm k
theorem g70At {l m : List Int} (hl : l.length = 6) (hm : m.length = 6) {α : Type} (k : Int → Option α) : g70 7 l m k = k (cmp6 l m) := g70Eq 0 hl hm k
theorem g19At (q : Bool) {l : List Int} (hl : l.length = 6) {α : Type} (k : List Int → Option α) : g19 7 q l k = k l := g19Eq 0 q hl k
end Go.Proofs.Ytobejeiffgehfaa.Sx
