/- Plain laws: ShiftUp and ShiftNear. Our own work. -/
import Derived.Test.YtobejeiffgehfaaPureP
namespace Go.Proofs.Ytobejeiffgehfaa.Sx
open Go
set_option linter.unusedVariables false
set_option linter.unusedSimpArgs false
set_option maxRecDepth 100000
theorem pow192 : (2 : Nat) ^ 192 = W192 := by decide
theorem len_le192 {a b : Nat} (ha : a < W192) (hb : isLen a b = true) : b ≤ 192 := isLen_le hb (by rw [pow192]; exact ha)
theorem fits_iff {a b p : Nat} (hb : isLen a b = true) (h : a ≠ 0) : b + p ≤ 192 ↔ a * 2 ^ p < W192 := by
  rw [isLen_iff] at hb
  obtain ⟨h1, h2⟩ := hb
  rw [← pow192]
  constructor
  · intro hle
    have h3 : a * 2 ^ p < 2 ^ b * 2 ^ p := Nat.mul_lt_mul_of_pos_right h1 (Nat.two_pow_pos p)
    rw [← Nat.pow_add] at h3
    exact Nat.lt_of_lt_of_le h3 (Nat.pow_le_pow_right (by decide) hle)
  · intro hlt
    rcases h2 with h2 | h2
    · subst h2; simp at h1; omega
    · have h3 : 2 ^ (b - 1) * 2 ^ p ≤ a * 2 ^ p := Nat.mul_le_mul_right _ h2
      rw [← Nat.pow_add] at h3
      have h4 : 2 ^ (b - 1 + p) < 2 ^ 192 := Nat.lt_of_le_of_lt h3 hlt
      have h5 := (Nat.pow_lt_pow_iff_right (by decide : 1 < 2)).1 h4
      have h6 : 0 < b := by
        rcases Nat.eq_zero_or_pos b with rfl | h; · simp at h1; omega
        · exact h
      omega
theorem g87L {α : Type} (n p : Nat) {a : Nat} (hp : p < 192) (ha : a < W192) (k : List Int → Bool → Option α) :
    g87 (n + 40) (p : Int) (limbs 6 a) k = cond (decide (a * 2 ^ p < W192)) (k (limbs 6 (a * 2 ^ p)) true) (k [0, 0, 0, 0, 0, 0] false) := by
  obtain ⟨b, hb⟩ := len_of a
  have hb192 := len_le192 ha hb
  have hloop : ∀ k : List Int → Option α, g87l0M (n + 40) (p : Int) (limbs 6 a) [0, 0, 0, 0, 0, 0] k 0 [0, 0, 0, 0, 0, 0] = k (limbs 6 (a * 2 ^ p)) := by
    intro k
    have h0 : L6 (upF (p / 32) (p % 32) a 0) = [0, 0, 0, 0, 0, 0] := by
      show L6 (upF (p / 32) (p % 32) a 0) = L6 (fun _ => 0)
      apply L6_congr
      intro i hi
      unfold upF
      by_cases c : i < p / 32
      · rw [if_pos c]
      · rw [if_neg c, if_neg (by omega), show below a 0 = 0 from rfl]
        simp
    have := g87loop p a hp ha [0, 0, 0, 0, 0, 0] k (6 - p / 32) 0 (n + 40) (by omega) (by omega)
    rw [h0] at this
    exact this
  simp only [g87, g87b, g101L n ha hb, g102L (n + 40) ha, hloop]
  rw [wrapI64 (x := (b : Int) + p) (by omega) (by omega)]
  by_cases h0 : a = 0
  · subst h0
    have : b = 0 := isLen_unique hb rfl
    subst this
    rw [decide_eq_false (show ¬ ((0 : Nat) : Int) + (p : Int) > 192 by omega)]
    simp only [cond_false, Nat.zero_mul, show decide (0 < W192) = true from rfl, cond_true]
  · have hf := fits_iff (p := p) hb h0
    by_cases h1 : a * 2 ^ p < W192
    · rw [decide_eq_false (show ¬ (b : Int) + (p : Int) > 192 by have := hf.2 h1; omega), decide_eq_true h1]; rfl
    · rw [decide_eq_true (show (b : Int) + (p : Int) > 192 by have := fun h => h1 (hf.1 h); omega), decide_eq_false h1, decide_eq_false h0]; rfl
theorem g59L {α : Type} (n p : Nat) (q : Bool) {a : Nat} (hp : p < 192) (ha : a < W192) (k : Bool → List Int → Int → Option α) :
    g59 (n + 40) q (limbs 6 a) (p : Int) k = cond (decide (a * 2 ^ p < W192)) (k (q && !(decide (a * 2 ^ p = 0))) (limbs 6 (a * 2 ^ p)) 0) (k false [0, 0, 0, 0, 0, 0] 3) := by
  simp only [g59, g59b, g87L n p hp ha]
  by_cases h : a * 2 ^ p < W192
  · rw [decide_eq_true h]
    simp only [cond_true, Bool.not_true, cond_false, g88L (n + 40) q h]
  · rw [decide_eq_false h]; rfl
theorem g66L {α : Type} (n p : Nat) (q o : Bool) {a : Nat} (hp : p < 192) (ha : a < W192) (k : Bool → List Int → Bool → Option α) :
    g66 (n + 7) q (limbs 6 a) (p : Int) o k = cond (decide (a * 2 ^ p < W192)) (k (q && !(decide (a * 2 ^ p = 0))) (limbs 6 (a * 2 ^ p)) o) (k false [0, 0, 0, 0, 0, 0] true) := by
  obtain ⟨b, hb⟩ := len_of a
  have hb192 := len_le192 ha hb
  simp only [g66, g66b, g93L n ha hb, g68L n p hp ha]
  rw [decide_eq_false (show ¬ (p : Int) > 191 by omega), wrapI64 (x := (b : Int) + p) (by omega) (by omega)]
  simp only [cond_false]
  by_cases h0 : a = 0
  · subst h0
    have : b = 0 := isLen_unique hb rfl
    subst this
    rw [decide_eq_false (show ¬ ((0 : Nat) : Int) + (p : Int) > 192 by omega)]
    simp only [cond_false, Nat.zero_mul, show decide (0 < W192) = true from rfl, cond_true, g84L (n + 7) q (show 0 < W192 by decide)]
  · have hf := fits_iff (p := p) hb h0
    by_cases h1 : a * 2 ^ p < W192
    · rw [decide_eq_false (show ¬ (b : Int) + (p : Int) > 192 by have := hf.2 h1; omega), decide_eq_true h1]
      simp only [cond_false, cond_true, g84L (n + 7) q h1]
    · rw [decide_eq_true (show (b : Int) + (p : Int) > 192 by have := fun h => h1 (hf.1 h); omega), decide_eq_false h1]; rfl
end Go.Proofs.Ytobejeiffgehfaa.Sx
