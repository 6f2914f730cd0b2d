/- Plain laws: what the functions on sizes compute, as numbers. Our own work. -/
import Derived.Test.YtobejeiffgehfaaPureH
namespace Go.Proofs.Ytobejeiffgehfaa.Sx
open Go
set_option linter.unusedVariables false
set_option linter.unusedSimpArgs false
set_option maxRecDepth 100000
theorem l6 (a : Nat) : (limbs 6 a).length = 6 := limbs_length 6 a
theorem carry_zero {s : Nat} : ((((s / W192 : Nat) : Int)) == 0) = decide (s < W192) := by
  by_cases h : s < W192
  · rw [Nat.div_eq_of_lt h, decide_eq_true h]; rfl
  · rw [decide_eq_false h]
    have : 0 < s / W192 := Nat.div_pos (by omega) (by decide)
    generalize s / W192 = q at *
    simp; omega
section
variable {α : Type} (n : Nat) {a b : Nat}
theorem g89L (ha : a < W192) (hb : b < W192) (k : List Int → Bool → Option α) : g89 (n + 7) (limbs 6 a) (limbs 6 b) k = k (limbs 6 (a + b)) (decide (a + b < W192)) := by
  rw [g89Eq n (l6 a) (l6 b), sum6 ha hb]; simp only [carry_zero]
theorem g69L (ha : a < W192) (hb : b < W192) (k : List Int → Bool → Option α) : g69 (n + 7) (limbs 6 a) (limbs 6 b) k = k (limbs 6 (a + b)) (!(decide (a + b < W192))) := by
  rw [g69Eq n (l6 a) (l6 b), sum6 ha hb]; simp only [bne, carry_zero]
theorem g91L (h : b ≤ a) (k : List Int → Option α) : g91 (n + 7) (limbs 6 a) (limbs 6 b) k = k (limbs 6 (a - b)) := by
  rw [g91Eq n (l6 a) (l6 b), dif6 h]
theorem g85L (h : b ≤ a) (k : List Int → Option α) : g85 (n + 7) (limbs 6 a) (limbs 6 b) k = k (limbs 6 (a - b)) := by
  rw [g85Eqi n (l6 a) (l6 b), difLEq _ _ 0 (limbs_u32 6 a) (limbs_u32 6 b) (.inl rfl), dif6 h]
theorem g90L (ha : a < W192) (hb : b < W192) (k : Int → Option α) : g90 (n + 7) (limbs 6 a) (limbs 6 b) k = k (cmpN a b) := by
  rw [g90Eq n (l6 a) (l6 b), cmp6_limbs ha hb]
theorem g70L (ha : a < W192) (hb : b < W192) (k : Int → Option α) : g70 (n + 7) (limbs 6 a) (limbs 6 b) k = k (cmpN a b) := by
  rw [g70Eq n (l6 a) (l6 b), cmp6_limbs ha hb]
theorem g102L (m : Nat) (ha : a < W192) (k : Bool → Option α) : g102 m (limbs 6 a) k = k (decide (a = 0)) := by
  simp only [g102, g102b, eqLI_zero ha]
theorem g88L (m : Nat) (q : Bool) (ha : a < W192) (k : Bool → Option α) : g88 m q (limbs 6 a) k = k (q && !(decide (a = 0))) := by
  simp only [g88, g88b, g102L m ha]; cases q <;> rfl
theorem g84L (m : Nat) (q : Bool) (ha : a < W192) (k : Bool → Option α) : g84 m q (limbs 6 a) k = k (q && !(decide (a = 0))) := by
  simp only [g84, g84b, eqLI_zero ha]; cases q <;> rfl
theorem g46L (m : Nat) (q : Bool) (ha : a < W192) (k : Bool → Option α) : g46 m q (limbs 6 a) k = k (!(q && decide (a = 0))) := by
  simp only [g46, g46b, eqLI_zero ha]; cases q <;> cases (decide (a = 0)) <;> rfl
theorem g49L (m : Nat) (q : Bool) (ha : a < W192) (k : Bool → Option α) : g49 m q (limbs 6 a) k = k (!(q && decide (a = 0))) := by
  simp only [g49, g49b, eqLI_zero ha]; cases q <;> cases (decide (a = 0)) <;> rfl
theorem g19L (q : Bool) (k : List Int → Option α) : g19 (n + 7) q (limbs 6 a) k = k (limbs 6 a) := g19Eq n q (l6 a) k
theorem g22L (q : Bool) (k : Bool → Option α) : g22 (n + 7) q (limbs 6 a) q (limbs 6 a) k = k true := g22Eq n q (l6 a) k
theorem g22Z (q : Bool) (k : Bool → Option α) : g22 (n + 7) q [0, 0, 0, 0, 0, 0] q [0, 0, 0, 0, 0, 0] k = k true := g22Eq n q rfl k
end
/-! ### Products -/
def dv : Nat → Nat → Nat
  | 0, N => N
  | j + 1, N => dv j (N / 4294967296)
theorem dv_eq : ∀ j N, dv j N = N / 4294967296 ^ j
  | 0, N => by simp [dv]
  | j + 1, N => by rw [dv, dv_eq j, Nat.div_div_eq_div_mul, Nat.pow_succ, Nat.mul_comm (4294967296 ^ j)]
theorem row_put (i : Nat) {N x b : Nat} (hi : i < 6) (hx : x < 4294967296) (hb : b < W192) (hN : N < 4294967296 ^ (i + 6)) :
    List.set (limbs i N ++ ((mulRow mulS (x : Int) 0 (limbs 6 b) (limbs 6 (dv i N))).1 ++ limbs (6 - i) (dv (i + 6) N))) (i + 6) (IntKind.wrap .u32 (mulRow mulS (x : Int) 0 (limbs 6 b) (limbs 6 (dv i N))).2) =
      limbs 12 (N + x * b * 4294967296 ^ i) := by
  have h := mulRow_limbs hx 6 b (dv i N) 0 (by omega)
  rw [show ((0 : Nat) : Int) = 0 from rfl] at h
  rw [h]
  simp only [Nat.add_zero]
  have hd : dv i N < W192 := by
    rw [dv_eq]
    refine Nat.div_lt_of_lt_mul ?_
    rw [← show (4294967296 : Nat) ^ 6 = W192 from by decide, ← Nat.pow_add]
    exact hN
  have hd' : dv (i + 6) N = 0 := by rw [dv_eq]; exact Nat.div_eq_of_lt hN
  rw [hd', show (4294967296 : Nat) ^ 6 = W192 from by decide, Nat.mod_eq_of_lt hb, Nat.mod_eq_of_lt hd]
  have hc : (x * b + dv i N) / W192 < 4294967296 := by
    refine Nat.div_lt_of_lt_mul ?_
    have h1 : x * b ≤ 4294967295 * b := Nat.mul_le_mul_right _ (by omega)
    have hb' : b < 6277101735386680763835789423207666416102355444464034512896 := hb
    have hd'' : dv i N < 6277101735386680763835789423207666416102355444464034512896 := hd
    show _ < 6277101735386680763835789423207666416102355444464034512896 * 4294967296
    omega
  rw [wrapU32, Nat.mod_eq_of_lt hc]
  have e1 : limbs 12 (N + x * b * 4294967296 ^ i) = limbs i N ++ (limbs 6 (x * b + dv i N) ++ limbs (6 - i) ((x * b + dv i N) / W192)) := by
    rw [show 12 = i + (6 + (6 - i)) by omega, limbs_add, Nat.mul_comm (x * b), limbs_mod, limbs_add, Nat.add_mul_div_left _ _ (Nat.pow_pos (by decide)), dv_eq, Nat.add_comm (N / _),
      show (4294967296 : Nat) ^ 6 = W192 from by decide]
  rw [e1, List.set_append_right _ _ (by rw [limbs_length]; omega), List.set_append_right _ _ (by rw [limbs_length, limbs_length]; omega), limbs_length, limbs_length, show i + 6 - i - 6 = 0 by omega]
  congr 2
  obtain ⟨j, hj⟩ : ∃ j, 6 - i = j + 1 := ⟨5 - i, by omega⟩
  rw [hj]
  simp only [limbs, List.set_cons_zero]
  rw [Nat.mod_eq_of_lt hc, Nat.div_eq_of_lt hc]
theorem g86row0 {α : Type} (n a b N : Nat) (w z y : List Int) (v : Int) (k : Int → List Int → Option α) : g86l2 0 ((dv 0 a % 4294967296 : Nat) : Int) w v (limbs 6 b) z y k (n + 7) 0 0 (limbs 12 N) =
    k (mulRow mulD ((dv 0 a % 4294967296 : Nat) : Int) 0 (limbs 6 b) (limbs 6 (dv 0 N))).2 (limbs 0 N ++ ((mulRow mulD ((dv 0 a % 4294967296 : Nat) : Int) 0 (limbs 6 b) (limbs 6 (dv 0 N))).1 ++ limbs 6 (dv 6 N))) := by kernel_rfl
theorem g86row1 {α : Type} (n a b N : Nat) (w z y : List Int) (v : Int) (k : Int → List Int → Option α) : g86l2 1 ((dv 1 a % 4294967296 : Nat) : Int) w v (limbs 6 b) z y k (n + 7) 0 0 (limbs 12 N) =
    k (mulRow mulD ((dv 1 a % 4294967296 : Nat) : Int) 0 (limbs 6 b) (limbs 6 (dv 1 N))).2 (limbs 1 N ++ ((mulRow mulD ((dv 1 a % 4294967296 : Nat) : Int) 0 (limbs 6 b) (limbs 6 (dv 1 N))).1 ++ limbs 5 (dv 7 N))) := by kernel_rfl
theorem g86row2 {α : Type} (n a b N : Nat) (w z y : List Int) (v : Int) (k : Int → List Int → Option α) : g86l2 2 ((dv 2 a % 4294967296 : Nat) : Int) w v (limbs 6 b) z y k (n + 7) 0 0 (limbs 12 N) =
    k (mulRow mulD ((dv 2 a % 4294967296 : Nat) : Int) 0 (limbs 6 b) (limbs 6 (dv 2 N))).2 (limbs 2 N ++ ((mulRow mulD ((dv 2 a % 4294967296 : Nat) : Int) 0 (limbs 6 b) (limbs 6 (dv 2 N))).1 ++ limbs 4 (dv 8 N))) := by kernel_rfl
theorem g86row3 {α : Type} (n a b N : Nat) (w z y : List Int) (v : Int) (k : Int → List Int → Option α) : g86l2 3 ((dv 3 a % 4294967296 : Nat) : Int) w v (limbs 6 b) z y k (n + 7) 0 0 (limbs 12 N) =
    k (mulRow mulD ((dv 3 a % 4294967296 : Nat) : Int) 0 (limbs 6 b) (limbs 6 (dv 3 N))).2 (limbs 3 N ++ ((mulRow mulD ((dv 3 a % 4294967296 : Nat) : Int) 0 (limbs 6 b) (limbs 6 (dv 3 N))).1 ++ limbs 3 (dv 9 N))) := by kernel_rfl
theorem g86row4 {α : Type} (n a b N : Nat) (w z y : List Int) (v : Int) (k : Int → List Int → Option α) : g86l2 4 ((dv 4 a % 4294967296 : Nat) : Int) w v (limbs 6 b) z y k (n + 7) 0 0 (limbs 12 N) =
    k (mulRow mulD ((dv 4 a % 4294967296 : Nat) : Int) 0 (limbs 6 b) (limbs 6 (dv 4 N))).2 (limbs 4 N ++ ((mulRow mulD ((dv 4 a % 4294967296 : Nat) : Int) 0 (limbs 6 b) (limbs 6 (dv 4 N))).1 ++ limbs 2 (dv 10 N))) := by kernel_rfl
theorem g86row5 {α : Type} (n a b N : Nat) (w z y : List Int) (v : Int) (k : Int → List Int → Option α) : g86l2 5 ((dv 5 a % 4294967296 : Nat) : Int) w v (limbs 6 b) z y k (n + 7) 0 0 (limbs 12 N) =
    k (mulRow mulD ((dv 5 a % 4294967296 : Nat) : Int) 0 (limbs 6 b) (limbs 6 (dv 5 N))).2 (limbs 5 N ++ ((mulRow mulD ((dv 5 a % 4294967296 : Nat) : Int) 0 (limbs 6 b) (limbs 6 (dv 5 N))).1 ++ limbs 1 (dv 11 N))) := by kernel_rfl
end Go.Proofs.Ytobejeiffgehfaa.Sx
