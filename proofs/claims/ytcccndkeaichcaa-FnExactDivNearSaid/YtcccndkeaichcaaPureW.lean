/- Plain laws: division by a small number; the step of long division (impl). Our own work. -/
import Derived.Test.YtcccndkeaichcaaPureV
namespace Go.Proofs.Ytcccndkeaichcaa.Sx
open Go
set_option linter.unusedVariables false
set_option linter.unusedSimpArgs false
set_option maxRecDepth 100000
theorem or_top {x y : Nat} (hx : x < 4294967296) (hy : y < 4294967296) : ibits .or .u64 (IntKind.wrap .u64 ((x : Int) * 2 ^ 32)) (IntKind.wrap .u64 (y : Int)) = ((x * 4294967296 + y : Nat) : Int) := by
  rw [show (2 ^ 32 : Int) = ((4294967296 : Nat) : Int) from rfl, ← Int.natCast_mul, wrapU64N, wrapU64N, Nat.mod_eq_of_lt (by omega), Nat.mod_eq_of_lt (by omega), or64 (by omega) (by omega)]
  have := or_is_add x y 32 hy
  rw [show (2 : Nat) ^ 32 = 4294967296 from rfl] at this
  rw [this]
theorem small_digit {A d x : Nat} (hd : 0 < d) (hx : x < 4294967296) : (A % d * 4294967296 + x) / d = (A * 4294967296 + x) / d % 4294967296 ∧ (A % d * 4294967296 + x) % d = (A * 4294967296 + x) % d := by
  have h1 := Nat.div_add_mod A d
  have h2 := Nat.mod_lt A hd
  generalize A / d = Q at *
  generalize A % d = r at *
  have h3 : A * 4294967296 + x = d * (Q * 4294967296) + (r * 4294967296 + x) := by rw [← h1, Nat.add_mul, Nat.mul_assoc]; omega
  have h4 : (r * 4294967296 + x) / d < 4294967296 := by
    apply Nat.div_lt_of_lt_mul
    have : (r + 1) * 4294967296 ≤ d * 4294967296 := Nat.mul_le_mul_right _ h2
    rw [Nat.add_mul] at this; omega
  rw [h3, Nat.mul_add_div hd, Nat.mul_add_mod]
  generalize (r * 4294967296 + x) / d = f at *
  exact ⟨by omega, rfl⟩
theorem g124s {α : Type} (j v d ρ x : Nat) (hv : v < 6) (hd : 0 < d) (hdB : d < 4294967296) (hρ : ρ < d) (hx : x < 4294967296) (z out : List Int) (ho : List.getD out v 0 = (x : Int)) (k : Int → List Int → Option α) :
    g124l0 (d : Int) z k (j + 1) (ρ : Int) (v : Int) out = g124l0 (d : Int) z k j (((ρ * 4294967296 + x) % d : Nat) : Int) ((v : Int) - 1) (List.set out v (((ρ * 4294967296 + x) / d : Nat) : Int)) := by
  have hq : (ρ * 4294967296 + x) / d < 4294967296 := by
    apply Nat.div_lt_of_lt_mul
    have : (ρ + 1) * 4294967296 ≤ d * 4294967296 := Nat.mul_le_mul_right _ hρ
    rw [Nat.add_mul] at this; omega
  simp only [g124l0, g124l0b]
  rw [decide_eq_true (show (v : Int) ≥ 0 by omega), cond_true, if_pos (by omega), Int.toNat_natCast, if_pos hv, ho, or_top (by omega) hx, wrapU64N d, Nat.mod_eq_of_lt (show d < 18446744073709551616 by omega), if_neg (by omega), if_pos (by omega), if_pos hv, if_neg (by omega),
    ← Int.ofNat_tmod, ← Int.ofNat_tdiv, wrapU64N, Nat.mod_eq_of_lt (show (ρ * 4294967296 + x) / d < 18446744073709551616 by omega), wrapU32, Nat.mod_eq_of_lt hq, wrapI64 (x := (v : Int) - 1) (by omega) (by omega)]
theorem g124loop {α : Type} (d a : Nat) (hd : 0 < d) (hdB : d < 4294967296) (z : List Int) (k : Int → List Int → Option α) : ∀ (w f : Nat), w ≤ 6 → w < f →
    g124l0 (d : Int) z k f ((a / 4294967296 ^ w % d : Nat) : Int) ((w : Int) - 1) (L6 (fun i => if i < w then ((dv i a % 4294967296 : Nat) : Int) else ((dv i (a / d) % 4294967296 : Nat) : Int))) = k ((a % d : Nat) : Int) (limbs 6 (a / d))
  | 0, f, hw, hf => by
    obtain ⟨f, rfl⟩ : ∃ j, f = j + 1 := ⟨f - 1, by omega⟩
    simp only [g124l0, g124l0b]
    rw [decide_eq_false (show ¬ ((0 : Nat) : Int) - 1 ≥ 0 by omega), cond_false, Nat.pow_zero, Nat.div_one, limbs_L6]
    rfl
  | w + 1, f, hw, hf => by
    obtain ⟨f, rfl⟩ : ∃ j, f = j + 1 := ⟨f - 1, by omega⟩
    have hx : dv w a % 4294967296 < 4294967296 := Nat.mod_lt _ (by decide)
    have hget : List.getD (L6 (fun i => if i < w + 1 then ((dv i a % 4294967296 : Nat) : Int) else ((dv i (a / d) % 4294967296 : Nat) : Int))) w 0 = ((dv w a % 4294967296 : Nat) : Int) := by
      rw [L6_getD _ (by omega), if_pos (by omega)]
    rw [show ((w + 1 : Nat) : Int) - 1 = (w : Int) by omega, g124s f w d _ _ (by omega) hd hdB (Nat.mod_lt _ hd) hx z _ hget k, L6_set _ (by omega)]
    obtain ⟨e1, e2⟩ := small_digit (A := a / 4294967296 ^ (w + 1)) hd hx
    have e3 : a / 4294967296 ^ (w + 1) * 4294967296 + dv w a % 4294967296 = a / 4294967296 ^ w := by
      rw [dv_eq, Nat.pow_succ, ← Nat.div_div_eq_div_mul, Nat.mul_comm]
      exact Nat.div_add_mod _ _
    rw [e3] at e1 e2
    rw [e1, e2, ← g124loop d a hd hdB z k w f (by omega) (by omega)]
    congr 1
    apply L6_congr
    intro i hi
    by_cases h : i = w
    · subst h
      rw [if_pos rfl, if_neg (by omega), dv_eq, Nat.div_div_eq_div_mul, Nat.div_div_eq_div_mul, Nat.mul_comm d]
    · rw [if_neg h]
      by_cases h2 : i < w
      · rw [if_pos h2, if_pos (by omega)]
      · rw [if_neg h2, if_neg (by omega)]
/-- division by a small number -/
theorem g124L {α : Type} (n : Nat) {a d : Nat} (ha : a < W192) (hd : 0 < d) (hdB : d < 4294967296) (k : List Int → Int → Option α) : g124 (n + 7) (limbs 6 a) (d : Int) k = k (limbs 6 (a / d)) ((a % d : Nat) : Int) := by
  have h : g124 (n + 7) (limbs 6 a) (d : Int) k = g124l0 (d : Int) [0, 0, 0, 0, 0, 0] (fun x l => k l (IntKind.wrap .u32 x)) (n + 7) 0 5 (limbs 6 a) := rfl
  have h2 := g124loop (α := α) d a hd hdB [0, 0, 0, 0, 0, 0] (fun x l => k l (IntKind.wrap .u32 x)) 6 (n + 7) (by omega) (by omega)
  have h3 : a / 4294967296 ^ 6 % d = 0 := by
    rw [show (4294967296 : Nat) ^ 6 = W192 from by decide, Nat.div_eq_of_lt ha, Nat.zero_mod]
  rw [h3] at h2
  have h4 : L6 (fun i => if i < 6 then ((dv i a % 4294967296 : Nat) : Int) else ((dv i (a / d) % 4294967296 : Nat) : Int)) = limbs 6 a := by
    rw [limbs_L6]; apply L6_congr; intro i hi; rw [if_pos hi]
  rw [h4] at h2
  rw [h]
  refine h2.trans ?_
  show k (limbs 6 (a / d)) (IntKind.wrap .u32 ((a % d : Nat) : Int)) = _
  have : a % d < d := Nat.mod_lt _ hd
  rw [wrapU32, Nat.mod_eq_of_lt (by omega)]
/-! ### The estimate -/
theorem knuth_hi {B P V U v1 v2 vl u0 u1 u2 ul q : Nat} (hV : V = (v1 * B + v2) * P + vl) (hU : U = ((u0 * B + u1) * B + u2) * P + ul) (hul : ul < P) (hu2 : u2 < B) (hq : q * V ≤ U) : q * v1 ≤ u0 * B + u1 := by
  have h1 : q * (v1 * (B * P)) ≤ q * V := by
    apply Nat.mul_le_mul_left
    rw [hV, Nat.add_mul, Nat.mul_assoc]; omega
  have h2 : U < (u0 * B + u1 + 1) * (B * P) := by
    have h3 : (u2 + 1) * P ≤ B * P := Nat.mul_le_mul_right P hu2
    rw [hU]
    simp only [Nat.add_mul, Nat.mul_assoc, Nat.one_mul] at h3 ⊢
    omega
  have h4 : (q * v1) * (B * P) < (u0 * B + u1 + 1) * (B * P) := by
    rw [Nat.mul_assoc]; omega
  have := Nat.lt_of_mul_lt_mul_right h4
  omega
theorem knuth_test {B P V U v1 v2 vl u0 u1 u2 ul q r Q : Nat} (hV : V = (v1 * B + v2) * P + vl) (hU : U = ((u0 * B + u1) * B + u2) * P + ul) (hul : ul < P)
    (hr : q * v1 + r = u0 * B + u1) (hQ : Q * V ≤ U) (ht : r * B + u2 < q * v2) : Q < q := by
  have h1 : ((u0 * B + u1) * B + u2 + 1) ≤ q * (v1 * B + v2) := by
    rw [← hr, Nat.mul_add, ← Nat.mul_assoc, Nat.add_mul]; omega
  have h2 := Nat.mul_le_mul_right P h1
  rw [Nat.add_mul _ 1, Nat.one_mul] at h2
  have h3 : U < q * V := by
    rw [hV, Nat.mul_add q, ← Nat.mul_assoc q]
    omega
  have h4 : Q * V < q * V := by omega
  exact Nat.lt_of_mul_lt_mul_right h4
theorem knuth_lo {B P V U v1 v2 vl u0 u1 u2 ul q r : Nat} (hV : V = (v1 * B + v2) * P + vl) (hU : U = ((u0 * B + u1) * B + u2) * P + ul) (hvl : vl < P) (hv1 : 0 < v1) (hB : 0 < B) (hq : q ≤ B)
    (hr : q * v1 + r = u0 * B + u1) (ht : q * v2 ≤ r * B + u2) : q * V < U + V := by
  have h1 : q * (v1 * B + v2) ≤ (u0 * B + u1) * B + u2 := by
    rw [← hr, Nat.mul_add, ← Nat.mul_assoc, Nat.add_mul]; omega
  have h2 := Nat.mul_le_mul_right P h1
  have h3 : q * vl ≤ B * vl := Nat.mul_le_mul_right vl hq
  have h4 : B * P ≤ v1 * B * P := by
    rw [Nat.mul_assoc]; exact Nat.le_mul_of_pos_left _ hv1
  have h5 : B * vl < B * P := Nat.mul_lt_mul_of_pos_left hvl hB
  have h6 : q * V = q * (v1 * B + v2) * P + q * vl := by rw [hV, Nat.mul_add, Nat.mul_assoc]
  have h7 : V = v1 * B * P + v2 * P + vl := by rw [hV, Nat.add_mul]
  omega
abbrev Bb : Nat := 4294967296
theorem shr32n (x : Nat) : Int.fdiv (x : Int) (2 ^ 32) = ((x / 4294967296 : Nat) : Int) := fdivNat x 4294967296
theorem u64_nat {x : Nat} (h : x < 18446744073709551616) : IntKind.wrap .u64 (x : Int) = (x : Int) := by rw [wrapU64N, Nat.mod_eq_of_lt h]
theorem nz_dec (x : Nat) : (((x / 4294967296 : Nat) : Int) != 0) = decide (4294967296 ≤ x) := by
  by_cases h : 4294967296 ≤ x
  · rw [decide_eq_true h]
    have : 0 < x / 4294967296 := Nat.div_pos h (by decide)
    simp; omega
  · rw [decide_eq_false h, Nat.div_eq_of_lt (by omega)]; rfl
/-- one turn of the loop that makes the estimate smaller -/
theorem g126e {α : Type} (j n f q r v1 v2 u2 : Nat) (hn : 2 ≤ n) (hj : j + n ≤ 6) (hq : q ≤ 4294967299) (hr : r < 4294967296) (hv1 : v1 < 4294967296) (hv2 : v2 < 4294967296) (hu2 : u2 < 4294967296) (hq0 : 0 < q ∨ (q < 4294967296 ∧ ¬ r * 4294967296 + u2 < q * v2))
    (lu lv : List Int) (g1 : List.getD lv (n - 1) 0 = (v1 : Int)) (g2 : List.getD lv (n - 2) 0 = (v2 : Int)) (g3 : List.getD lu (j + (n - 2)) 0 = (u2 : Int)) (k : Int → Option α) :
    g126l0 j (n + 1) (7 - j) 0 n 6 (n : Int) lu lv k (f + 1) (q : Int) (r : Int) =
      cond (decide (4294967296 ≤ q) || decide (r * 4294967296 + u2 < q * v2)) (cond (decide (4294967296 ≤ r + v1)) (k ((q - 1 : Nat) : Int)) (g126l0 j (n + 1) (7 - j) 0 n 6 (n : Int) lu lv k f ((q - 1 : Nat) : Int) ((r + v1 : Nat) : Int))) (k (q : Int)) := by
  have hn6 : n ≤ 6 := by omega
  simp only [g126l0, g126l0b]
  rw [shr32n, nz_dec]
  have w1 : IntKind.wrap .i64 ((n : Int) - 1) = ((n - 1 : Nat) : Int) := by rw [wrapI64 (by omega) (by omega)]; omega
  have w2 : IntKind.wrap .i64 ((n : Int) - 2) = ((n - 2 : Nat) : Int) := by rw [wrapI64 (by omega) (by omega)]; omega
  rw [w1, w2]
  simp only [Int.toNat_natCast, Nat.zero_add]
  rw [g1, g2, g3, u64_nat (show v1 < 18446744073709551616 by omega), u64_nat (show v2 < 18446744073709551616 by omega)]
  have hrv : IntKind.wrap .u64 ((r : Int) + (v1 : Int)) = ((r + v1 : Nat) : Int) := by rw [← Int.natCast_add, u64_nat (by omega)]
  have dec : 0 < q → IntKind.wrap .u64 ((q : Int) - 1) = ((q - 1 : Nat) : Int) := fun h => by rw [show (q : Int) - 1 = ((q - 1 : Nat) : Int) by omega, u64_nat (by omega)]
  rw [hrv, shr32n, nz_dec]
  by_cases c1 : 4294967296 ≤ q
  · rw [decide_eq_true c1, cond_true, Bool.true_or, cond_true, if_pos (by omega), if_pos (by omega), dec (by omega)]
  · rw [decide_eq_false c1, cond_false, Bool.false_or, if_pos (by omega), if_pos (by omega), if_pos (by omega), if_pos (by omega)]
    have hqv := mul_le (show q < 4294967296 by omega) hv2
    rw [← Int.natCast_mul, u64_nat (by omega), or_top hr hu2]
    by_cases c2 : r * 4294967296 + u2 < q * v2
    · rw [decide_eq_true (show ((q * v2 : Nat) : Int) > ((r * 4294967296 + u2 : Nat) : Int) by omega), decide_eq_true c2, cond_true, cond_true, if_pos (by omega), if_pos (by omega)]
      have hq1 : 0 < q := by
        rcases Nat.eq_zero_or_pos q with rfl | h
        · rw [Nat.zero_mul] at c2; omega
        · exact h
      rw [dec hq1]
    · rw [decide_eq_false (show ¬ ((q * v2 : Nat) : Int) > ((r * 4294967296 + u2 : Nat) : Int) by omega), decide_eq_false c2, cond_false, cond_false]
theorem knuth_est (j n v1 v2 vl u0 u1 u2 ul P V X : Nat) (hn : 2 ≤ n) (hj : j + n ≤ 6) (hv1 : v1 < 4294967296) (hv1' : 2147483648 ≤ v1) (hv2 : v2 < 4294967296) (hu1 : u1 < 4294967296) (hu2 : u2 < 4294967296) (hvl : vl < P) (hul : ul < P)
    (hV : V = (v1 * 4294967296 + v2) * P + vl) (hX : X = ((u0 * 4294967296 + u1) * 4294967296 + u2) * P + ul) (hXV : X < V * 4294967296) (hu0 : u0 ≤ v1)
    (lu lv : List Int) (g1 : List.getD lv (n - 1) 0 = (v1 : Int)) (g2 : List.getD lv (n - 2) 0 = (v2 : Int)) (g3 : List.getD lu (j + (n - 2)) 0 = (u2 : Int)) :
    ∀ (f q r : Nat), r < 4294967296 → 4294967296 ≤ r + f * v1 → q * v1 + r = u0 * 4294967296 + u1 → X / V ≤ q →
    ∃ Q : Nat, (∀ {α : Type} (k : Int → Option α), g126l0 j (n + 1) (7 - j) 0 n 6 (n : Int) lu lv k f (q : Int) (r : Int) = k (Q : Int)) ∧ X / V ≤ Q ∧ Q < 4294967296 ∧ Q * V < X + V
  | 0, q, r, hr, hf, hqr, hQ => by rw [Nat.zero_mul] at hf; omega
  | f + 1, q, r, hr, hf, hqr, hQ => by
    have hVpos : 0 < V := by
      rcases Nat.eq_zero_or_pos V with h | h
      · rw [h, Nat.zero_mul] at hXV; omega
      · exact h
    have hXQ : X / V * V ≤ X := Nat.div_mul_le_self _ _
    have hqb : q ≤ 4294967299 := by
      have h1 : q * 2147483648 ≤ q * v1 := Nat.mul_le_mul_left _ hv1'
      have h2 : u0 * 4294967296 ≤ v1 * 4294967296 := Nat.mul_le_mul_right _ hu0
      by_cases hq : q ≤ 4294967299
      · exact hq
      · exfalso
        have h3 : 4294967300 * v1 ≤ q * v1 := Nat.mul_le_mul_right _ (by omega)
        omega
    have hXB : X / V < 4294967296 := Nat.div_lt_of_lt_mul hXV
    have hpos : (4294967296 ≤ q ∨ r * 4294967296 + u2 < q * v2) → X / V < q := by
      rintro (h | h)
      · omega
      · exact knuth_test hV hX hul hqr hXQ h
    have hq0 : 0 < q ∨ (q < 4294967296 ∧ ¬ r * 4294967296 + u2 < q * v2) := by
      rcases Nat.eq_zero_or_pos q with rfl | h
      · exact .inr ⟨by decide, by rw [Nat.zero_mul]; omega⟩
      · exact .inl h
    have hE := fun {α : Type} (k : Int → Option α) => g126e j n f q r v1 v2 u2 hn hj hqb hr hv1 hv2 hu2 hq0 lu lv g1 g2 g3 k
    by_cases c : 4294967296 ≤ q ∨ r * 4294967296 + u2 < q * v2
    · have hlt := hpos c
      have hc : (decide (4294967296 ≤ q) || decide (r * 4294967296 + u2 < q * v2)) = true := by simpa using c
      have hqr' : (q - 1) * v1 + (r + v1) = u0 * 4294967296 + u1 := by
        rw [← hqr]
        obtain ⟨p, rfl⟩ : ∃ p, q = p + 1 := ⟨q - 1, by omega⟩
        rw [Nat.add_sub_cancel, Nat.add_mul]; omega
      by_cases c2 : 4294967296 ≤ r + v1
      · have hB : q - 1 < 4294967296 := by
          have h2 : u0 * 4294967296 ≤ v1 * 4294967296 := Nat.mul_le_mul_right _ hu0
          by_cases h : q - 1 < 4294967296
          · exact h
          · exfalso
            have h3 : 4294967296 * v1 ≤ (q - 1) * v1 := Nat.mul_le_mul_right _ (by omega)
            omega
        refine ⟨q - 1, fun k => by rw [hE, hc, cond_true, decide_eq_true c2, cond_true], by omega, hB, ?_⟩
        refine knuth_lo hV hX hvl (by omega) (by decide) (by omega) hqr' ?_
        have h4 := Nat.mul_le_mul (show q - 1 ≤ 4294967296 by omega) (show v2 ≤ 4294967296 by omega)
        have h5 : 4294967296 * 4294967296 ≤ (r + v1) * 4294967296 := Nat.mul_le_mul_right _ c2
        omega
      · obtain ⟨Q, e, h⟩ := knuth_est j n v1 v2 vl u0 u1 u2 ul P V X hn hj hv1 hv1' hv2 hu1 hu2 hvl hul hV hX hXV hu0 lu lv g1 g2 g3 f (q - 1) (r + v1) (by omega) (by rw [Nat.add_mul] at hf; omega) hqr' (by omega)
        exact ⟨Q, fun k => by rw [hE, hc, cond_true, decide_eq_false c2, cond_false, e], h⟩
    · have hc : (decide (4294967296 ≤ q) || decide (r * 4294967296 + u2 < q * v2)) = false := by
        simp only [not_or] at c
        rw [decide_eq_false c.1, decide_eq_false c.2]; rfl
      simp only [not_or] at c
      exact ⟨q, fun k => by rw [hE, hc, cond_false], hQ, by omega, knuth_lo hV hX hvl (by omega) (by decide) (by omega) hqr (by omega)⟩
end Go.Proofs.Ytcccndkeaichcaa.Sx
