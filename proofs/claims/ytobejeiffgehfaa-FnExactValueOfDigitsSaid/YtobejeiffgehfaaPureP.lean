/- Plain laws: shifts of sizes, up (reference) and down. Our own work. -/
import Derived.Test.YtobejeiffgehfaaPureO
namespace Go.Proofs.Ytobejeiffgehfaa.Sx
open Go
set_option linter.unusedVariables false
set_option linter.unusedSimpArgs false
set_option maxRecDepth 100000
/-! ### Lists of six -/
def L6 (f : Nat → Int) : List Int := (List.range 6).map f
theorem L6_length (f : Nat → Int) : (L6 f).length = 6 := rfl
theorem L6_getD (f : Nat → Int) {i : Nat} (h : i < 6) : List.getD (L6 f) i 0 = f i := by
  match i, h with
  | 0, _ => rfl
  | 1, _ => rfl
  | 2, _ => rfl
  | 3, _ => rfl
  | 4, _ => rfl
  | 5, _ => rfl
theorem L6_set (f : Nat → Int) {i : Nat} (h : i < 6) (x : Int) : List.set (L6 f) i x = L6 (fun j => if j = i then x else f j) := by
  match i, h with
  | 0, _ => rfl
  | 1, _ => rfl
  | 2, _ => rfl
  | 3, _ => rfl
  | 4, _ => rfl
  | 5, _ => rfl
theorem L6_congr {f g : Nat → Int} (h : ∀ i, i < 6 → f i = g i) : L6 f = L6 g := by
  unfold L6
  exact List.map_congr_left fun i hi => h i (List.mem_range.1 hi)
theorem limbs_L6 (a : Nat) : limbs 6 a = L6 (fun i => ((dv i a % 4294967296 : Nat) : Int)) := rfl
/-! ### Down -/
def dnE (r x y : Nat) : Int := ((x / 2 ^ r + y * 2 ^ (32 - r) % 4294967296 : Nat) : Int)
theorem dn_digit {r : Nat} (hr : r ≤ 32) (M : Nat) : M / 2 ^ r % 4294967296 = M % 4294967296 / 2 ^ r + M / 4294967296 % 4294967296 * 2 ^ (32 - r) % 4294967296 := by
  have h := down_step hr 0 (M % 4294967296) (M / 4294967296) (Nat.mod_lt _ (by decide))
  rw [Nat.mod_add_div] at h
  simp only [limbs, List.cons.injEq, and_true] at h
  have h' : M / 2 ^ r % 4294967296 = M % 4294967296 / 2 ^ r + M / 4294967296 * 2 ^ (32 - r) % 4294967296 := Int.ofNat.inj h
  rw [h']
  congr 1
  conv => lhs; rw [← Nat.mod_add_div (M / 4294967296) 4294967296, down_mod hr]
theorem dv_div (j q a s : Nat) : dv j (a / 4294967296 ^ q / s) = dv (j + q) a / s := by
  rw [dv_eq, dv_eq, Nat.div_div_eq_div_mul, Nat.div_div_eq_div_mul, Nat.div_div_eq_div_mul, Nat.pow_add]
  congr 1
  rw [Nat.mul_right_comm, Nat.mul_comm (4294967296 ^ j)]
  exact Nat.mul_comm _ _
theorem down_L6 (q r a : Nat) (hr : r < 32) : L6 (fun k => dnE r (dv (k + q) a % 4294967296) (dv (k + q + 1) a % 4294967296)) = limbs 6 (a / 2 ^ (32 * q + r)) := by
  rw [limbs_L6]
  apply L6_congr
  intro k hk
  have e1 : a / 2 ^ (32 * q + r) = a / 4294967296 ^ q / 2 ^ r := by
    rw [Nat.div_div_eq_div_mul, Nat.pow_add, Nat.pow_mul]
  rw [e1, dv_div, dn_digit (by omega)]
  unfold dnE
  have e2 : dv (k + q) a / 4294967296 = dv (k + q + 1) a := by rw [dv_eq, dv_eq, Nat.div_div_eq_div_mul, Nat.pow_succ]
  rw [e2]
theorem dv_high {j a : Nat} (ha : a < W192) (hj : 6 ≤ j) : dv j a = 0 := by
  rw [dv_eq]
  apply Nat.div_eq_of_lt
  have : (4294967296 : Nat) ^ 6 ≤ 4294967296 ^ j := Nat.pow_le_pow_right (by decide) hj
  rw [show (4294967296 : Nat) ^ 6 = W192 from by decide] at this
  omega
theorem dnE_high {r j a : Nat} (ha : a < W192) (hj : 6 ≤ j) : dnE r (dv j a % 4294967296) (dv (j + 1) a % 4294967296) = 0 := by
  unfold dnE
  rw [dv_high ha hj, dv_high ha (by omega : 6 ≤ j + 1)]; simp
theorem dn_or {r : Nat} (hr : r ≤ 32) (x y : Nat) (hx : x < 4294967296) : ibits .or .u32 ((x / 2 ^ r : Nat) : Int) ((y * 2 ^ (32 - r) % 4294967296 : Nat) : Int) = dnE r x y := by
  have hc : x / 2 ^ r < 2 ^ (32 - r) := by
    refine Nat.div_lt_of_lt_mul ?_
    rw [Nat.mul_comm, ← pow_split hr]; exact hx
  have hl := up_lt (r := 32 - r) (by omega) y _ hc
  rw [or32 (by omega) (Nat.mod_lt _ (by decide)), Nat.or_comm, up_or (by omega) _ _ hc, Nat.add_comm]
  rfl
theorem sdown {r x y : Nat} (hr : r < 32) (hx : x < 4294967296) (hy : y < 4294967296) :
    IntKind.wrap .u32 (Int.fdiv (IntKind.wrap .u64 ((x : Int) + (IntKind.wrap .u64 ((IntKind.wrap .u64 (y : Int)) * 2 ^ 32)))) (2 ^ r)) = dnE r x y := by
  rw [wrapU64N y, Nat.mod_eq_of_lt (show y < 18446744073709551616 by omega), show (2 ^ 32 : Int) = ((4294967296 : Nat) : Int) from rfl, ← Int.natCast_mul, wrapU64N, Nat.mod_eq_of_lt (by omega), ← Int.natCast_add, wrapU64N, Nat.mod_eq_of_lt (by omega), shr32, wrapU32]
  unfold dnE
  congr 1
  have := dn_digit (r := r) (by omega) (x + y * 4294967296)
  rw [show (x + y * 4294967296) % 4294967296 = x by omega, show (x + y * 4294967296) / 4294967296 = y by omega, Nat.mod_eq_of_lt hy] at this
  exact this
/-! ### Up (reference) -/
def upF (q r a v i : Nat) : Int := if i < q then 0 else if i < q + v then upE r (below a (i - q)) (dv (i - q) a % 4294967296) else if i = q + v then ((below a v * 2 ^ r / 4294967296 : Nat) : Int) else 0
theorem below_lt (a i : Nat) : below a i < 4294967296 := by
  unfold below; split
  · decide
  · exact Nat.mod_lt _ (by decide)
theorem or_zero32 {x : Nat} (hx : x < 4294967296) : ibits .or .u32 0 (x : Int) = (x : Int) := by
  have := or32 (x := 0) (y := x) (by decide) hx
  rw [show ((0 : Nat) : Int) = 0 from rfl] at this
  rw [this, Nat.zero_or]
theorem g87s {α : Type} (j v p a : Nat) (hp : p < 192) (hv : v + p / 32 < 6) (z : List Int) (k : List Int → Option α) :
    g87l0 (p : Int) (limbs 6 a) z k (j + 1) (v : Int) (L6 (upF (p / 32) (p % 32) a v)) = g87l0 (p : Int) (limbs 6 a) z k j ((v + 1 : Nat) : Int) (L6 (upF (p / 32) (p % 32) a (v + 1))) := by
  have hm : p % 32 < 32 := Nat.mod_lt _ (by decide)
  have hx : dv v a % 4294967296 < 4294967296 := Nat.mod_lt _ (by decide)
  generalize hxv : dv v a % 4294967296 = x at hx
  have hxp : x * 2 ^ (p % 32) < 18446744073709551616 := by
    have h1 : 2 ^ (p % 32) ≤ 4294967296 := by
      have := Nat.pow_le_pow_right (n := 2) (by decide) (show p % 32 ≤ 32 by omega)
      exact this
    have h2 := Nat.mul_le_mul (show x ≤ 4294967295 by omega) h1
    omega
  simp only [g87l0, g87l0b]
  rw [decide_eq_true (show (v : Int) < 6 by omega), div32 hp, mod32, wrapI64 (x := (v : Int) + ((p / 32 : Nat) : Int)) (by omega) (by omega), show (v : Int) + ((p / 32 : Nat) : Int) = ((v + p / 32 : Nat) : Int) by omega, wrapI64 (x := (v : Int) + 1) (by omega) (by omega), show (v : Int) + 1 = ((v + 1 : Nat) : Int) by omega,
    wrapU64N (p % 32), Nat.mod_eq_of_lt (show p % 32 < 18446744073709551616 by omega), decide_eq_false (show ¬ ((v + p / 32 : Nat) : Int) ≥ 6 by omega), wrapI64 (x := ((v + p / 32 : Nat) : Int) + 1) (by omega) (by omega), show ((v + p / 32 : Nat) : Int) + 1 = ((v + p / 32 + 1 : Nat) : Int) by omega]
  simp only [cond_true, cond_false, Int.toNat_natCast]
  rw [if_pos (by omega), if_pos (by omega), if_neg (by omega), if_pos (by omega), if_pos (by omega), if_pos (by omega), if_pos (by omega), limbs_getD 6 a v (by omega), hxv, wrapU64N x, Nat.mod_eq_of_lt (show x < 18446744073709551616 by omega), Nat.min_eq_left (show p % 32 ≤ 64 by omega), pow_cast, ← Int.natCast_mul, wrapU64N, Nat.mod_eq_of_lt hxp, wrapU32,
    L6_getD _ (by omega)]
  have hc := carry_up (r := p % 32) (below_lt a v)
  have hu := up_lt (r := p % 32) (by omega) x _ hc
  have hlow : ibits .or .u32 (upF (p / 32) (p % 32) a v (v + p / 32)) ((x * 2 ^ (p % 32) % 4294967296 : Nat) : Int) = upE (p % 32) (below a v) x := by
    unfold upF
    rw [if_neg (by omega), if_neg (by omega), if_pos (by omega), or32 (by omega) (Nat.mod_lt _ (by decide)), Nat.or_comm, up_or (by omega) _ _ hc]; rfl
  rw [hlow, L6_set _ (by omega)]
  have hcar : x * 2 ^ (p % 32) / 4294967296 < 4294967296 := by omega
  by_cases h1 : v + p / 32 + 1 < 6
  · rw [decide_eq_true (show ((v + p / 32 + 1 : Nat) : Int) < 6 by omega)]
    simp only [cond_true]
    rw [if_pos (by omega), if_pos (by omega), if_pos (by omega), if_pos (by omega), L6_getD _ h1, if_neg (by omega), show (2 ^ 32 : Int) = ((4294967296 : Nat) : Int) from rfl, fdivNat, wrapU32, Nat.mod_eq_of_lt hcar]
    have hz : upF (p / 32) (p % 32) a v (v + p / 32 + 1) = 0 := by
      unfold upF; rw [if_neg (by omega), if_neg (by omega), if_neg (by omega)]
    rw [hz, or_zero32 hcar, L6_set _ h1]
    congr 1
    apply L6_congr
    intro i hi
    unfold upF
    by_cases c1 : i = v + p / 32 + 1
    · subst c1
      rw [if_pos rfl, if_neg (by omega), if_neg (by omega), if_pos (by omega)]
      unfold below
      rw [if_neg (by omega), show v + 1 - 1 = v by omega, hxv]
    · rw [if_neg c1]
      by_cases c2 : i = v + p / 32
      · subst c2
        rw [if_pos rfl, if_neg (by omega), if_pos (by omega), show v + p / 32 - p / 32 = v by omega, hxv]
      · rw [if_neg c2]
        by_cases c3 : i < p / 32
        · rw [if_pos c3, if_pos c3]
        · rw [if_neg c3, if_neg c3]
          by_cases c4 : i < p / 32 + v
          · rw [if_pos c4, if_pos (by omega)]
          · rw [if_neg c4, if_neg (by omega), if_neg (by omega), if_neg (by omega)]
  · rw [decide_eq_false (show ¬ ((v + p / 32 + 1 : Nat) : Int) < 6 by omega)]
    simp only [cond_false]
    congr 1
    apply L6_congr
    intro i hi
    unfold upF
    by_cases c2 : i = v + p / 32
    · subst c2
      rw [if_pos rfl, if_neg (by omega), if_pos (by omega), show v + p / 32 - p / 32 = v by omega, hxv]
    · rw [if_neg c2]
      by_cases c3 : i < p / 32
      · rw [if_pos c3, if_pos c3]
      · rw [if_neg c3, if_neg c3]
        by_cases c4 : i < p / 32 + v
        · rw [if_pos c4, if_pos (by omega)]
        · omega
theorem g87loop {α : Type} (p a : Nat) (hp : p < 192) (ha : a < W192) (z : List Int) (k : List Int → Option α) : ∀ (d v j : Nat), v + p / 32 + d = 6 → d < j →
    g87l0 (p : Int) (limbs 6 a) z k j (v : Int) (L6 (upF (p / 32) (p % 32) a v)) = k (limbs 6 (a * 2 ^ p))
  | 0, v, j, hd, hj => by
    obtain ⟨j, rfl⟩ : ∃ i, j = i + 1 := ⟨j - 1, by omega⟩
    have hfin : L6 (upF (p / 32) (p % 32) a v) = limbs 6 (a * 2 ^ p) := by
      have := upList_eq (p / 32) (p % 32) ha (by omega) (Nat.mod_lt _ (by decide))
      rw [show 32 * (p / 32) + p % 32 = p by omega] at this
      rw [← this]
      apply L6_congr
      intro i hi
      unfold upF
      by_cases c3 : i < p / 32
      · rw [if_pos c3, if_pos c3]
      · rw [if_neg c3, if_neg c3, if_pos (by omega)]
    simp only [g87l0, g87l0b]
    by_cases h6 : v < 6
    · rw [decide_eq_true (show (v : Int) < 6 by omega), div32 hp, wrapI64 (x := (v : Int) + ((p / 32 : Nat) : Int)) (by omega) (by omega), decide_eq_true (show (v : Int) + ((p / 32 : Nat) : Int) ≥ 6 by omega), hfin]; rfl
    · rw [decide_eq_false (show ¬ (v : Int) < 6 by omega), hfin]; rfl
  | d + 1, v, j, hd, hj => by
    obtain ⟨j, rfl⟩ : ∃ i, j = i + 1 := ⟨j - 1, by omega⟩
    rw [g87s j v p a hp (by omega) z k]
    exact g87loop p a hp ha z k d (v + 1) j (by omega) (by omega)
end Go.Proofs.Ytobejeiffgehfaa.Sx
