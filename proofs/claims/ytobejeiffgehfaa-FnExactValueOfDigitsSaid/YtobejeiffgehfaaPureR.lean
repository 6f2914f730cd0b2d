/- Plain laws: ShiftNear. Our own work. -/
import Derived.Test.YtobejeiffgehfaaPureQ
namespace Go.Proofs.Ytobejeiffgehfaa.Sx
open Go
set_option linter.unusedVariables false
set_option linter.unusedSimpArgs false
set_option maxRecDepth 100000
theorem half_bit {a p : Nat} (hp : 0 < p) : a / 2 ^ (p - 1) % 2 = 1 ↔ 2 ^ (p - 1) ≤ a % 2 ^ p := by
  obtain ⟨s, rfl⟩ : ∃ s, p = s + 1 := ⟨p - 1, by omega⟩
  rw [Nat.add_sub_cancel, Nat.pow_succ, Nat.mod_mul]
  have h1 : a % 2 ^ s < 2 ^ s := Nat.mod_lt _ (Nat.two_pow_pos s)
  have h2 : a / 2 ^ s % 2 < 2 := Nat.mod_lt _ (by decide)
  generalize a / 2 ^ s % 2 = t at *
  generalize 2 ^ s = P at *
  rcases (show t = 0 ∨ t = 1 by omega) with rfl | rfl
  · simp; omega
  · simp
def nearN (q : Bool) (a p : Nat) : Nat := cond (cond q (decide (2 ^ (p - 1) < a % 2 ^ p)) (decide (2 ^ (p - 1) ≤ a % 2 ^ p))) (a / 2 ^ p + 1) (a / 2 ^ p)
theorem down_lt {a p : Nat} (hp : 0 < p) (ha : a < W192) : a / 2 ^ p + 1 < W192 := by
  obtain ⟨s, rfl⟩ : ∃ s, p = s + 1 := ⟨p - 1, by omega⟩
  have h1 : a / 2 ^ (s + 1) ≤ a / 2 := by
    rw [Nat.pow_succ, Nat.mul_comm, ← Nat.div_div_eq_div_mul]
    exact Nat.div_le_self _ _
  have ha' : a < 6277101735386680763835789423207666416102355444464034512896 := ha
  show _ < 6277101735386680763835789423207666416102355444464034512896
  omega
theorem one_up {s : Nat} (hs : s < 192) : 1 * 2 ^ s < W192 := by
  rw [Nat.one_mul, ← pow192]; exact Nat.pow_lt_pow_right (by decide) hs
theorem limbs_one : limbs 6 1 = [1, 0, 0, 0, 0, 0] := rfl
theorem odd_limb (h : Nat) : ((Int.tmod (List.getD (limbs 6 h) 0 0) 2) == 1) = decide (h % 2 = 1) := by
  rw [limbs_getD 6 h 0 (by decide), show (2 : Int) = ((2 : Nat) : Int) from rfl, ← Int.ofNat_tmod]
  have : dv 0 h % 4294967296 % 2 = h % 2 := by show h % 4294967296 % 2 = h % 2; omega
  rw [this]
  by_cases hh : h % 2 = 1
  · rw [hh]; rfl
  · rw [show h % 2 = 0 by omega]; rfl
theorem cmpN_gt (a b : Nat) : decide (cmpN a b > 0) = decide (b < a) := by
  unfold cmpN
  by_cases h1 : a < b
  · rw [if_pos h1, decide_eq_false (show ¬ b < a by omega)]; rfl
  · by_cases h2 : b < a
    · rw [if_neg h1, if_pos h2, decide_eq_true h2]; rfl
    · rw [if_neg h1, if_neg h2, decide_eq_false h2]; rfl
theorem cmpN_zero (a b : Nat) : (cmpN a b == 0) = decide (a = b) := by
  unfold cmpN
  by_cases h1 : a < b
  · rw [if_pos h1, decide_eq_false (show ¬ a = b by omega)]; rfl
  · by_cases h2 : b < a
    · rw [if_neg h1, if_pos h2, decide_eq_false (show ¬ a = b by omega)]; rfl
    · rw [if_neg h1, if_neg h2, decide_eq_true (show a = b by omega)]; rfl
theorem cmpN_le (a b : Nat) : decide (cmpN a b ≤ 0) = decide (a ≤ b) := by
  unfold cmpN
  by_cases h1 : a < b
  · rw [if_pos h1, decide_eq_true (show a ≤ b by omega)]; rfl
  · by_cases h2 : b < a
    · rw [if_neg h1, if_pos h2, decide_eq_false (show ¬ a ≤ b by omega)]; rfl
    · rw [if_neg h1, if_neg h2, decide_eq_true (show a ≤ b by omega)]; rfl
theorem g67L {α : Type} (m : Nat) (k : List Int → Option α) : g67 m k = k (limbs 6 1) := rfl
theorem z191 : decide (((0 : Nat) : Int) > 191) = false := rfl
theorem zz0 : (((0 : Nat) : Int) == 0) = true := rfl
theorem g56U (m : Nat) (b : Bool) (l : List Int) {α : Type} (k : Bool → List Int → Int → Option α) : g56 m b l false k = k b l 0 := by kernel_rfl
end Go.Proofs.Ytobejeiffgehfaa.Sx
