/- Plain laws: the step of long division (impl), the whole. Our own work. -/
import Derived.Test.YtcccndkeaichcaaPureW
namespace Go.Proofs.Ytcccndkeaichcaa.Sx
open Go
set_option linter.unusedVariables false
set_option linter.unusedSimpArgs false
set_option maxRecDepth 100000
theorem limbs_snoc {i N y : Nat} (hN : N < 4294967296 ^ i) (hy : y < 4294967296) (R : List Int) : limbs i N ++ ((y : Int) :: R) = limbs (i + 1) (N + 4294967296 ^ i * y) ++ R := by
  rw [limbs_add i 1, limbs_mod, Nat.add_mul_div_left _ _ (Nat.pow_pos (by decide)), Nat.div_eq_of_lt hN, Nat.zero_add]
  simp only [limbs, Nat.mod_eq_of_lt hy, List.append_assoc, List.cons_append, List.nil_append]
theorem limbs_cons {k : Nat} (hk : 0 < k) (M : Nat) : limbs k M = ((M % 4294967296 : Nat) : Int) :: limbs (k - 1) (M / 4294967296) := by
  obtain ⟨k, rfl⟩ : ∃ j, k = j + 1 := ⟨k - 1, by omega⟩
  rfl
/-- the segment of a row of seven: what is done, what is not -/
def sg (j U i N X : Nat) : List Int := limbs j U ++ (limbs i N ++ limbs (7 - j - i) (X / 4294967296 ^ i))
theorem div_pow_succ (X i : Nat) : X / 4294967296 ^ i / 4294967296 = X / 4294967296 ^ (i + 1) := by rw [Nat.div_div_eq_div_mul, Nat.pow_succ]
theorem sg_get {j U i N X : Nat} (h : j + i < 7) : List.getD (sg j U i N X) (j + i) 0 = ((X / 4294967296 ^ i % 4294967296 : Nat) : Int) := by
  unfold sg
  rw [limbs_cons (by omega) (X / 4294967296 ^ i), List.getD_eq_getElem?_getD, List.getElem?_append_right (by rw [limbs_length]; omega), limbs_length, show j + i - j = i by omega, List.getElem?_append_right (by rw [limbs_length]; exact Nat.le_refl _), limbs_length, Nat.sub_self]
  rfl
theorem sg_set {j U i N X y : Nat} (h : j + i < 7) (hN : N < 4294967296 ^ i) (hy : y < 4294967296) : List.set (sg j U i N X) (j + i) (y : Int) = sg j U (i + 1) (N + 4294967296 ^ i * y) X := by
  unfold sg
  rw [limbs_cons (by omega) (X / 4294967296 ^ i), List.set_append_right _ _ (by rw [limbs_length]; omega), limbs_length, show j + i - j = i by omega, List.set_append_right _ _ (by rw [limbs_length]; exact Nat.le_refl _), limbs_length, Nat.sub_self, List.set_cons_zero,
    limbs_snoc hN hy, div_pow_succ, show 7 - j - i - 1 = 7 - j - (i + 1) by omega]
theorem sg_zero (j U : Nat) (hj : j ≤ 7) : sg j U 0 0 (U / 4294967296 ^ j) = limbs 7 U := by
  unfold sg
  rw [Nat.pow_zero, Nat.div_one, Nat.sub_zero]
  show limbs j U ++ limbs (7 - j) _ = _
  rw [← limbs_add, show j + (7 - j) = 7 by omega]
theorem sg_end {j U i N X : Nat} (hi : j + i ≤ 7) (hN : N < 4294967296 ^ i) (hX : X < 4294967296 ^ i) : sg j U i N X = sg j U 0 0 N := by
  unfold sg
  rw [Nat.div_eq_of_lt hX, Nat.pow_zero, Nat.div_one, Nat.sub_zero]
  congr 1
  show _ = limbs (7 - j) N
  have := limbs_add i (7 - j - i) N
  rw [show i + (7 - j - i) = 7 - j by omega, Nat.div_eq_of_lt hN] at this
  exact this.symm
theorem get6 {V i : Nat} (hi : i < 6) : List.getD (limbs 6 V) i 0 = ((V / 4294967296 ^ i % 4294967296 : Nat) : Int) := by rw [limbs_getD 6 V i hi, dv_eq]
theorem mod_succ (X i : Nat) : X % 4294967296 ^ (i + 1) = X % 4294967296 ^ i + 4294967296 ^ i * (X / 4294967296 ^ i % 4294967296) := by rw [Nat.pow_succ, Nat.mod_mul]
/-- one limb of the difference -/
theorem sub_limb {x lo c : Nat} (hx : x < 4294967296) (hlo : lo < 4294967296) (hc : c ≤ 1) : ∃ y c' : Nat, y < 4294967296 ∧ c' ≤ 1 ∧ x + 4294967296 * c' = y + lo + c ∧
    IntKind.wrap .u32 (IntKind.wrap .u64 ((IntKind.wrap .u64 ((x : Int) - (lo : Int))) - (c : Int))) = (y : Int) ∧ Int.fdiv (IntKind.wrap .u64 ((IntKind.wrap .u64 ((x : Int) - (lo : Int))) - (c : Int))) (2 ^ 63) = (c' : Int) := by
  have hw : IntKind.wrap .u64 ((IntKind.wrap .u64 ((x : Int) - (lo : Int))) - (c : Int)) = if lo + c ≤ x then ((x - lo - c : Nat) : Int) else ((18446744073709551616 + x - lo - c : Nat) : Int) := by
    unfold IntKind.wrap
    simp only [IntKind.signed, IntKind.bits]
    simp
    split <;> omega
  rw [hw]
  by_cases h : lo + c ≤ x
  · rw [if_pos h]
    refine ⟨x - lo - c, 0, by omega, by omega, by omega, ?_, ?_⟩
    · rw [wrapU32, Nat.mod_eq_of_lt (by omega)]
    · rw [show (2 ^ 63 : Int) = ((9223372036854775808 : Nat) : Int) from rfl, fdivNat, Nat.div_eq_of_lt (by omega)]
  · rw [if_neg h]
    refine ⟨x + 4294967296 - lo - c, 1, by omega, by omega, by omega, ?_, ?_⟩
    · rw [wrapU32]; congr 1; omega
    · rw [show (2 ^ 63 : Int) = ((9223372036854775808 : Nat) : Int) from rfl, fdivNat]; congr 1; omega
theorem pow_lt7 (i : Nat) {N y : Nat} (hN : N < 4294967296 ^ i) (hy : y < 4294967296) : N + 4294967296 ^ i * y < 4294967296 ^ (i + 1) := by
  rw [Nat.pow_succ]
  have : 4294967296 ^ i * (y + 1) ≤ 4294967296 ^ i * 4294967296 := Nat.mul_le_mul_left _ hy
  rw [Nat.mul_add] at this
  omega
theorem mulsub (j n q U V X : Nat) (hjn : j + n ≤ 6) (hq : q < 4294967296) : ∀ (d i f c K N : Nat), i + d = n → d < f → c ≤ 1 → K < 4294967296 → N < 4294967296 ^ i →
    X % 4294967296 ^ i + 4294967296 ^ i * (c + K) = N + q * (V % 4294967296 ^ i) →
    ∃ c' K' N' : Nat, (∀ {α : Type} (k : Int → Int → List Int → Option α), g126l2 j (n + 1) (7 - j) 0 n 6 (n : Int) (q : Int) (n : Int) (limbs 6 V) k f (c : Int) (K : Int) (i : Int) (sg j U i N X) = k (c' : Int) (K' : Int) (sg j U n N' X)) ∧ c' ≤ 1 ∧ K' < 4294967296 ∧ N' < 4294967296 ^ n ∧
      X % 4294967296 ^ n + 4294967296 ^ n * (c' + K') = N' + q * (V % 4294967296 ^ n)
  | 0, i, f, c, K, N, hd, hf, hc, hK, hN, hI => by
    obtain ⟨f, rfl⟩ : ∃ j, f = j + 1 := ⟨f - 1, by omega⟩
    obtain rfl : i = n := by omega
    refine ⟨c, K, N, fun k => ?_, hc, hK, hN, hI⟩
    simp only [g126l2, g126l2b]
    rw [decide_eq_false (show ¬ (i : Int) < (i : Int) by omega), cond_false]
  | d + 1, i, f, c, K, N, hd, hf, hc, hK, hN, hI => by
    obtain ⟨f, rfl⟩ : ∃ j, f = j + 1 := ⟨f - 1, by omega⟩
    have hv : V / 4294967296 ^ i % 4294967296 < 4294967296 := Nat.mod_lt _ (by decide)
    have hx : X / 4294967296 ^ i % 4294967296 < 4294967296 := Nat.mod_lt _ (by decide)
    have hqv := mul_le hq hv
    have mX := mod_succ X i
    have mV := mod_succ V i
    generalize hvv : V / 4294967296 ^ i % 4294967296 = v at *
    generalize hxx : X / 4294967296 ^ i % 4294967296 = x at *
    obtain ⟨y, c', hy, hc', hyc, e1, e2⟩ := sub_limb hx (show (K + q * v) % 4294967296 < 4294967296 from Nat.mod_lt _ (by decide)) hc
    have hstep : ∀ {α : Type} (k : Int → Int → List Int → Option α), g126l2 j (n + 1) (7 - j) 0 n 6 (n : Int) (q : Int) (n : Int) (limbs 6 V) k (f + 1) (c : Int) (K : Int) (i : Int) (sg j U i N X) =
        g126l2 j (n + 1) (7 - j) 0 n 6 (n : Int) (q : Int) (n : Int) (limbs 6 V) k f (c' : Int) (((K + q * v) / 4294967296 : Nat) : Int) ((i + 1 : Nat) : Int) (sg j U (i + 1) (N + 4294967296 ^ i * y) X) := by
      intro α k
      simp only [g126l2, g126l2b]
      rw [decide_eq_true (show (i : Int) < (n : Int) by omega), cond_true]
      simp only [Int.toNat_natCast, Nat.zero_add]
      rw [if_pos (by omega), if_pos (by omega), get6 (show i < 6 by omega), hvv, u64_nat (show v < 18446744073709551616 by omega), ← Int.natCast_mul, u64_nat (show q * v < 18446744073709551616 by omega), ← Int.natCast_add, u64_nat (show K + q * v < 18446744073709551616 by omega),
        if_pos (by omega), if_pos (by omega), sg_get (by omega), hxx, u64_nat (show x < 18446744073709551616 by omega), and64 (show K + q * v < 18446744073709551616 by omega), if_pos (by omega), if_pos (by omega), e1, e2, shr32n, sg_set (by omega) hN hy,
        wrapI64 (x := (i : Int) + 1) (by omega) (by omega), show (i : Int) + 1 = ((i + 1 : Nat) : Int) by omega]
    suffices hs : X % 4294967296 ^ (i + 1) + 4294967296 ^ (i + 1) * (c' + (K + q * v) / 4294967296) = (N + 4294967296 ^ i * y) + q * (V % 4294967296 ^ (i + 1)) by
      obtain ⟨c2, K2, N2, e, h⟩ := mulsub j n q U V X hjn hq d (i + 1) f c' _ _ (by omega) (by omega) hc' (Nat.div_lt_of_lt_mul (by omega)) (pow_lt7 i hN hy) hs
      exact ⟨c2, K2, N2, fun k => by rw [hstep, e], h⟩
    have hK2 := Nat.div_add_mod (K + q * v) 4294967296
    generalize (K + q * v) / 4294967296 = K2 at *
    generalize (K + q * v) % 4294967296 = lo at *
    rw [mX, mV, Nat.pow_succ]
    generalize 4294967296 ^ i = P at *
    have h1 : P * x + P * (4294967296 * c') = P * y + P * lo + P * c := by rw [← Nat.mul_add, ← Nat.mul_add, ← Nat.mul_add, hyc]
    have h2 : P * (4294967296 * K2) + P * lo = P * K + P * (q * v) := by rw [← Nat.mul_add, ← Nat.mul_add, hK2]
    have h3 : q * (V % P + P * v) = q * (V % P) + P * (q * v) := by rw [Nat.mul_add, Nat.mul_left_comm]
    rw [h3]
    simp only [Nat.mul_add, Nat.mul_assoc] at hI h1 h2 ⊢
    omega
theorem addback (j n q U V Z : Nat) (hjn : j + n ≤ 6) : ∀ (d i f c M : Nat), i + d = n → d < f → c ≤ 1 → M < 4294967296 ^ i →
    Z % 4294967296 ^ i + V % 4294967296 ^ i = M + 4294967296 ^ i * c →
    ∃ c' M' : Nat, (∀ {α : Type} (k : Int → List Int → Option α), g126l4 j (n + 1) (7 - j) 0 n 6 (n : Int) (q : Int) (n : Int) (limbs 6 V) k f (c : Int) (i : Int) (sg j U i M Z) = k (c' : Int) (sg j U n M' Z)) ∧ c' ≤ 1 ∧ M' < 4294967296 ^ n ∧
      Z % 4294967296 ^ n + V % 4294967296 ^ n = M' + 4294967296 ^ n * c'
  | 0, i, f, c, M, hd, hf, hc, hM, hI => by
    obtain ⟨f, rfl⟩ : ∃ j, f = j + 1 := ⟨f - 1, by omega⟩
    obtain rfl : i = n := by omega
    refine ⟨c, M, fun k => ?_, hc, hM, hI⟩
    simp only [g126l4, g126l4b]
    rw [decide_eq_false (show ¬ (i : Int) < (i : Int) by omega), cond_false]
  | d + 1, i, f, c, M, hd, hf, hc, hM, hI => by
    obtain ⟨f, rfl⟩ : ∃ j, f = j + 1 := ⟨f - 1, by omega⟩
    have hv : V / 4294967296 ^ i % 4294967296 < 4294967296 := Nat.mod_lt _ (by decide)
    have hx : Z / 4294967296 ^ i % 4294967296 < 4294967296 := Nat.mod_lt _ (by decide)
    have mX := mod_succ Z i
    have mV := mod_succ V i
    generalize hvv : V / 4294967296 ^ i % 4294967296 = v at *
    generalize hxx : Z / 4294967296 ^ i % 4294967296 = x at *
    have hy : (c + (x + v)) % 4294967296 < 4294967296 := Nat.mod_lt _ (by decide)
    have hstep : ∀ {α : Type} (k : Int → List Int → Option α), g126l4 j (n + 1) (7 - j) 0 n 6 (n : Int) (q : Int) (n : Int) (limbs 6 V) k (f + 1) (c : Int) (i : Int) (sg j U i M Z) =
        g126l4 j (n + 1) (7 - j) 0 n 6 (n : Int) (q : Int) (n : Int) (limbs 6 V) k f (((c + (x + v)) / 4294967296 : Nat) : Int) ((i + 1 : Nat) : Int) (sg j U (i + 1) (M + 4294967296 ^ i * ((c + (x + v)) % 4294967296)) Z) := by
      intro α k
      simp only [g126l4, g126l4b]
      rw [decide_eq_true (show (i : Int) < (n : Int) by omega), cond_true]
      simp only [Int.toNat_natCast, Nat.zero_add]
      rw [if_pos (by omega), if_pos (by omega), if_pos (by omega), if_pos (by omega), get6 (show i < 6 by omega), hvv, u64_nat (show v < 18446744073709551616 by omega), sg_get (by omega), hxx, u64_nat (show x < 18446744073709551616 by omega), ← Int.natCast_add, u64_nat (show x + v < 18446744073709551616 by omega),
        ← Int.natCast_add, u64_nat (show c + (x + v) < 18446744073709551616 by omega), if_pos (by omega), if_pos (by omega), shr32n, wrapU32, sg_set (by omega) hM hy, wrapI64 (x := (i : Int) + 1) (by omega) (by omega), show (i : Int) + 1 = ((i + 1 : Nat) : Int) by omega]
    suffices hs : Z % 4294967296 ^ (i + 1) + V % 4294967296 ^ (i + 1) = (M + 4294967296 ^ i * ((c + (x + v)) % 4294967296)) + 4294967296 ^ (i + 1) * ((c + (x + v)) / 4294967296) by
      obtain ⟨c2, M2, e, h⟩ := addback j n q U V Z hjn d (i + 1) f _ _ (by omega) (by omega) (by omega) (pow_lt7 i hM hy) hs
      exact ⟨c2, M2, fun k => by rw [hstep, e], h⟩
    have hK2 := Nat.div_add_mod (c + (x + v)) 4294967296
    generalize (c + (x + v)) / 4294967296 = K2 at *
    generalize (c + (x + v)) % 4294967296 = lo at *
    rw [mX, mV, Nat.pow_succ]
    generalize 4294967296 ^ i = P at *
    have h2 : P * (4294967296 * K2) + P * lo = P * c + (P * x + P * v) := by rw [← Nat.mul_add, ← Nat.mul_add, ← Nat.mul_add, hK2]
    simp only [Nat.mul_assoc] at hI h2 ⊢
    omega
end Go.Proofs.Ytcccndkeaichcaa.Sx
