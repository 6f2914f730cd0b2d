/- Plain laws: bit lengths of numbers; powers; int64 values. Our own work. -/
import Derived.Test.YtobejeiffgehfaaPureJ
namespace Go.Proofs.Ytobejeiffgehfaa.Sx
open Go
set_option linter.unusedVariables false
set_option linter.unusedSimpArgs false
set_option maxRecDepth 100000
/-! ### Bits -/
theorem len_of (a : Nat) : ∃ b, isLen a b = true := by
  by_cases h0 : a = 0
  · exact ⟨0, by rw [h0]; rfl⟩
  · exact ⟨a.log2 + 1, by rw [isLen_iff]; exact ⟨Nat.lt_log2_self, .inr (by simpa using Nat.log2_self_le h0)⟩⟩
theorem g93Un {α : Type} (n : Nat) (a b c d e f : Int) (k : Int → Option α) : g93 (n + 7) [a, b, c, d, e, f] k = (cond (f != 0) (g103 (n + 7) f (fun x => k (IntKind.wrap .i64 (160 + x)))) (cond (e != 0) (g103 (n + 7) e (fun x => k (IntKind.wrap .i64 (128 + x)))) (cond (d != 0) (g103 (n + 7) d (fun x => k (IntKind.wrap .i64 (96 + x)))) (cond (c != 0) (g103 (n + 7) c (fun x => k (IntKind.wrap .i64 (64 + x)))) (cond (b != 0) (g103 (n + 7) b (fun x => k (IntKind.wrap .i64 (32 + x)))) (cond (a != 0) (g103 (n + 7) a (fun x => k (IntKind.wrap .i64 (0 + x)))) (k 0))))))) := by kernel_rfl
theorem g101Un {α : Type} (n : Nat) (a b c d e f : Int) (k : Int → Option α) : g101 (n + 40) [a, b, c, d, e, f] k = (cond (f == 0) (cond (e == 0) (cond (d == 0) (cond (c == 0) (cond (b == 0) (cond (a == 0) (k 0) (g101l2 0 [a, b, c, d, e, f] (fun x => k (IntKind.wrap .i64 (0 + x))) (n + 40) 0 a)) (g101l2 1 [a, b, c, d, e, f] (fun x => k (IntKind.wrap .i64 (32 + x))) (n + 40) 0 b)) (g101l2 2 [a, b, c, d, e, f] (fun x => k (IntKind.wrap .i64 (64 + x))) (n + 40) 0 c)) (g101l2 3 [a, b, c, d, e, f] (fun x => k (IntKind.wrap .i64 (96 + x))) (n + 40) 0 d)) (g101l2 4 [a, b, c, d, e, f] (fun x => k (IntKind.wrap .i64 (128 + x))) (n + 40) 0 e)) (g101l2 5 [a, b, c, d, e, f] (fun x => k (IntKind.wrap .i64 (160 + x))) (n + 40) 0 f)) := by kernel_rfl
/-- one limb of the search for the highest one -/
theorem limb94 {α : Type} (m s x b : Nat) (hs : s ≤ 160) (hx : x < 4294967296) (r : Option α) (k : Int → Option α) {A : Nat} (hA : A / 2 ^ s = x) (hb : isLen A b = true) (hr : x = 0 → r = k (b : Int)) :
    cond ((x : Int) != 0) (g103 m (x : Int) (fun y => k (IntKind.wrap .i64 ((s : Int) + y)))) r = k (b : Int) := by
  by_cases h0 : x = 0
  · subst h0
    exact hr rfl
  · rw [show ((x : Int) != 0) = true by simpa using h0]
    obtain ⟨c, hc, hc2⟩ := len_ex x hx
    simp only [cond_true]
    rw [g103Eq m hx hc, wrapI64 (by omega) (by omega)]
    have : b = c + s := isLen_unique hb (isLen_shift (by rw [hA]; exact hc) (isLen_pos hc (by omega)))
    congr 1; omega
theorem limb93 {α : Type} (n w s x b : Nat) (l : List Int) (hs : s ≤ 160) (hx : x < 4294967296) (r : Option α) (k : Int → Option α) {A : Nat} (hA : A / 2 ^ s = x) (hb : isLen A b = true) (hr : x = 0 → r = k (b : Int)) :
    cond ((x : Int) == 0) r (g101l2 (w : Int) l (fun y => k (IntKind.wrap .i64 ((s : Int) + y))) (n + 40) 0 (x : Int)) = k (b : Int) := by
  by_cases h0 : x = 0
  · subst h0
    exact hr rfl
  · rw [show ((x : Int) == 0) = false by simpa using h0]
    obtain ⟨c, hc, hc2⟩ := len_ex x hx
    simp only [cond_false]
    have := g101l2Eq (w : Int) l (fun y => k (IntKind.wrap .i64 ((s : Int) + y))) c x 0 (n + 39 - c) hc (by omega)
    rw [show n + 39 - c + c + 1 = n + 40 by omega, Nat.zero_add] at this
    rw [show (0 : Int) = ((0 : Nat) : Int) from rfl, this, wrapI64 (by omega) (by omega)]
    have : b = c + s := isLen_unique hb (isLen_shift (by rw [hA]; exact hc) (isLen_pos hc (by omega)))
    congr 1; omega
theorem g93L {α : Type} (n : Nat) {a b : Nat} (ha : a < W192) (hb : isLen a b = true) (k : Int → Option α) : g93 (n + 7) (limbs 6 a) k = k (b : Int) := by
  obtain ⟨x0, x1, x2, x3, x4, x5, p0, p1, p2, p3, p4, p5, e, e'⟩ := six_split a ha
  rw [e, g93Un]
  refine limb94 (n + 7) 160 x5 b (by decide) p5 _ k (A := a) (by rw [e']; omega) hb fun h5 => ?_
  refine limb94 (n + 7) 128 x4 b (by decide) p4 _ k (A := a) (by rw [e']; omega) hb fun h4 => ?_
  refine limb94 (n + 7) 96 x3 b (by decide) p3 _ k (A := a) (by rw [e']; omega) hb fun h3 => ?_
  refine limb94 (n + 7) 64 x2 b (by decide) p2 _ k (A := a) (by rw [e']; omega) hb fun h2 => ?_
  refine limb94 (n + 7) 32 x1 b (by decide) p1 _ k (A := a) (by rw [e']; omega) hb fun h1 => ?_
  refine limb94 (n + 7) 0 x0 b (by decide) p0 _ k (A := a) (by rw [e']; omega) hb fun h0 => ?_
  have : a = 0 := by omega
  have hb0 : b = 0 := isLen_unique hb (by rw [this]; rfl)
  rw [hb0]; rfl
theorem g101L {α : Type} (n : Nat) {a b : Nat} (ha : a < W192) (hb : isLen a b = true) (k : Int → Option α) : g101 (n + 40) (limbs 6 a) k = k (b : Int) := by
  obtain ⟨x0, x1, x2, x3, x4, x5, p0, p1, p2, p3, p4, p5, e, e'⟩ := six_split a ha
  rw [e, g101Un]
  refine limb93 n 5 160 x5 b _ (by decide) p5 _ k (A := a) (by rw [e']; omega) hb fun h5 => ?_
  refine limb93 n 4 128 x4 b _ (by decide) p4 _ k (A := a) (by rw [e']; omega) hb fun h4 => ?_
  refine limb93 n 3 96 x3 b _ (by decide) p3 _ k (A := a) (by rw [e']; omega) hb fun h3 => ?_
  refine limb93 n 2 64 x2 b _ (by decide) p2 _ k (A := a) (by rw [e']; omega) hb fun h2 => ?_
  refine limb93 n 1 32 x1 b _ (by decide) p1 _ k (A := a) (by rw [e']; omega) hb fun h1 => ?_
  refine limb93 n 0 0 x0 b _ (by decide) p0 _ k (A := a) (by rw [e']; omega) hb fun h0 => ?_
  have : a = 0 := by omega
  have hb0 : b = 0 := isLen_unique hb (by rw [this]; rfl)
  rw [hb0]; rfl
/-! ### Powers -/
def sgn (s q : Bool) (x : Nat) : Bool := (!(s == q)) && !(decide (x = 0))
def powR (a : Nat) (q : Bool) : Nat → Bool → Nat → Option (Bool × Nat)
  | 0, s, x => some (s, x)
  | j + 1, s, x => cond (decide (x * a < W192)) (powR a q j (sgn s q (x * a)) (x * a)) none
theorem powR_lt {a : Nat} {q : Bool} : ∀ {j : Nat} {s : Bool} {x : Nat} {r : Bool × Nat}, x < W192 → powR a q j s x = some r → r.2 < W192
  | 0, s, x, r, hx, h => by simp only [powR, Option.some.injEq] at h; subst h; exact hx
  | j + 1, s, x, r, hx, h => by
    simp only [powR] at h
    by_cases hl : x * a < W192
    · rw [decide_eq_true hl] at h; exact powR_lt hl h
    · rw [decide_eq_false hl] at h; cases h
theorem g62one {α : Type} (m : Nat) (k : Bool → List Int → Option α) : g62 m 1 k = k false (limbs 6 1) := by kernel_rfl
theorem g55one {α : Type} (m : Nat) (k : Bool → List Int → Option α) : g55 m 1 k = k false (limbs 6 1) := by kernel_rfl
def inR (x lo hi : Int) : Bool := decide (x ≥ lo) && decide (x ≤ hi)
theorem inR_iff {x lo hi : Int} : inR x lo hi = true ↔ lo ≤ x ∧ x ≤ hi := by simp [inR]
theorem g81E {α : Type} (m : Nat) (x lo hi : Int) (k : Bool → Option α) : g81 m x lo hi k = k (inR x lo hi) := by
  unfold g81 g81b inR
  cases decide (x ≥ lo) <;> rfl
theorem g64E {α : Type} (m : Nat) (x lo hi : Int) (k : Bool → Option α) : g64 m x lo hi k = k (inR x lo hi) := by
  unfold g64 g64b inR
  cases decide (x ≥ lo) <;> rfl
end Go.Proofs.Ytobejeiffgehfaa.Sx
