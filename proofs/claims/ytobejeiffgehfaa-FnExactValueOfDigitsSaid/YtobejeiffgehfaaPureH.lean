import Derived.Test.YtobejeiffgehfaaPureG
namespace Go.Proofs.Ytobejeiffgehfaa.Sx
open Go
set_option linter.unusedVariables false
set_option linter.unusedSimpArgs false
set_option maxRecDepth 100000
/-! ### Numbers as rows of limbs -/
/-- The limbs of a number, the lowest first. -/
def limbs : Nat → Nat → List Int
  | 0, _ => []
  | k + 1, n => ((n % 4294967296 : Nat) : Int) :: limbs k (n / 4294967296)
def val : List Int → Nat
  | [] => 0
  | x :: r => x.toNat + 4294967296 * val r
abbrev W192 : Nat := 6277101735386680763835789423207666416102355444464034512896
theorem limbs_length : ∀ (k n : Nat), (limbs k n).length = k
  | 0, _ => rfl
  | k + 1, n => by simp [limbs, limbs_length k]
theorem wf_u32 {n : Nat} (h : n < 4294967296) : (Lit.int .u32 (n : Int)).wf = true := by
  simp [Lit.wf, IntKind.min, IntKind.max, IntKind.signed, IntKind.bits]; omega
theorem limbs_u32 : ∀ (k n : Nat), U32 (limbs k n)
  | 0, _ => by intro x hx; cases hx
  | k + 1, n => by
    intro x hx
    simp only [limbs, List.mem_cons] at hx
    rcases hx with rfl | hx
    · exact wf_u32 (by omega)
    · exact limbs_u32 k _ x hx
theorem limbs_val : ∀ (l : List Int), U32 l → limbs l.length (val l) = l
  | [], _ => rfl
  | x :: r, h => by
    have hx := bounds_u32 (h x (by simp))
    have e : val (x :: r) = x.toNat + 4294967296 * val r := rfl
    simp only [List.length_cons, limbs]
    rw [e, show (x.toNat + 4294967296 * val r) % 4294967296 = x.toNat by omega, show (x.toNat + 4294967296 * val r) / 4294967296 = val r by omega, limbs_val r (fun y hy => h y (by simp [hy]))]
    rw [Int.toNat_of_nonneg hx.1]
theorem val_lt : ∀ (l : List Int), U32 l → val l < 4294967296 ^ l.length
  | [], _ => by simp [val]
  | x :: r, h => by
    have hx := bounds_u32 (h x (by simp))
    have := val_lt r (fun y hy => h y (by simp [hy]))
    simp only [val, List.length_cons, Nat.pow_succ]
    omega
theorem val_limbs : ∀ (k n : Nat), val (limbs k n) = n % 4294967296 ^ k
  | 0, n => by simp [limbs, val, Nat.mod_one]
  | k + 1, n => by
    simp only [limbs, val, val_limbs k, Int.toNat_natCast]
    rw [Nat.pow_succ, Nat.mul_comm (4294967296 ^ k), Nat.mod_mul]
/-- Every row of six limbs is that of a number. -/
theorem limbs_ex {l : List Int} (hl : l.length = 6) (ul : U32 l) : ∃ a : Nat, a < W192 ∧ l = limbs 6 a :=
  ⟨val l, by have := val_lt l ul; rw [hl] at this; exact this, by rw [← hl, limbs_val l ul]⟩
theorem limbs_inj {a b : Nat} (ha : a < W192) (hb : b < W192) (h : limbs 6 a = limbs 6 b) : a = b := by
  have h' := congrArg val h
  rw [val_limbs, val_limbs, Nat.mod_eq_of_lt ha, Nat.mod_eq_of_lt hb] at h'
  exact h'
theorem wrapU64 {x : Int} (h0 : 0 ≤ x) (h1 : x < 18446744073709551616) : IntKind.wrap .u64 x = x := by
  unfold IntKind.wrap; simp only [IntKind.signed, IntKind.bits]; simp; omega
theorem wrapU32 (x : Nat) : IntKind.wrap .u32 (x : Int) = ((x % 4294967296 : Nat) : Int) := by
  unfold IntKind.wrap; simp only [IntKind.signed, IntKind.bits]; simp
theorem wrapU64N (x : Nat) : IntKind.wrap .u64 (x : Int) = ((x % 18446744073709551616 : Nat) : Int) := by
  unfold IntKind.wrap; simp only [IntKind.signed, IntKind.bits]; simp
theorem sumS_nat {a b c : Nat} (ha : a < 4294967296) (hb : b < 4294967296) (hc : c < 4294967296) : sumS c a b = ((a + b + c : Nat) : Int) := by
  unfold sumS
  rw [wrapU64N, wrapU64N, Nat.mod_eq_of_lt (by omega), Nat.mod_eq_of_lt (by omega), ← Int.natCast_add, wrapU64N, Nat.mod_eq_of_lt (by omega), ← Int.natCast_add, wrapU64N, Nat.mod_eq_of_lt (by omega)]
theorem sumL_limbs : ∀ (k a b c : Nat), c ≤ 1 → sumL sumS c (limbs k a) (limbs k b) = (limbs k (a + b + c), (((a % 4294967296 ^ k + b % 4294967296 ^ k + c) / 4294967296 ^ k : Nat) : Int))
  | 0, a, b, c, hc => by simp [limbs, sumL, Nat.mod_one]
  | k + 1, a, b, c, hc => by
    have e := sumS_nat (a := a % 4294967296) (b := b % 4294967296) (c := c) (by omega) (by omega) (by omega)
    simp only [limbs, sumL, e]
    have h1 : hiS ((a % 4294967296 + b % 4294967296 + c : Nat) : Int) = (((a % 4294967296 + b % 4294967296 + c) / 4294967296 : Nat) : Int) := fdivNat _ 4294967296
    have h2 : loS ((a % 4294967296 + b % 4294967296 + c : Nat) : Int) = (((a + b + c) % 4294967296 : Nat) : Int) := by
      unfold loS; rw [wrapU32]; congr 1; omega
    rw [h1, h2, sumL_limbs k _ _ _ (by omega)]
    have e1 : a / 4294967296 + b / 4294967296 + (a % 4294967296 + b % 4294967296 + c) / 4294967296 = (a + b + c) / 4294967296 := by omega
    rw [e1]
    refine Prod.ext rfl ?_
    show (((a / 4294967296 % 4294967296 ^ k + b / 4294967296 % 4294967296 ^ k + (a % 4294967296 + b % 4294967296 + c) / 4294967296) / 4294967296 ^ k : Nat) : Int) = _
    congr 1
    have p : 4294967296 ^ (k + 1) = 4294967296 * 4294967296 ^ k := by rw [Nat.pow_succ, Nat.mul_comm]
    rw [p, Nat.mod_mul, Nat.mod_mul (x := b), ← Nat.div_div_eq_div_mul]
    congr 1
    generalize a / 4294967296 % 4294967296 ^ k = x
    generalize b / 4294967296 % 4294967296 ^ k = y
    omega
theorem sum6 {a b : Nat} (ha : a < W192) (hb : b < W192) : sumL sumS 0 (limbs 6 a) (limbs 6 b) = (limbs 6 (a + b), (((a + b) / W192 : Nat) : Int)) := by
  have := sumL_limbs 6 a b 0 (by omega)
  rw [Nat.mod_eq_of_lt ha, Nat.mod_eq_of_lt hb] at this
  exact this
theorem difX_nat {a b c : Nat} (ha : a < 4294967296) (hb : b < 4294967296) (hc : c ≤ 1) : difX c a b = (a : Int) - b - c := by
  unfold difX
  rw [wrapI64 (x := (a : Int)) (by omega) (by omega), wrapI64 (x := (b : Int)) (by omega) (by omega), wrapI64 (x := (a : Int) - b) (by omega) (by omega), wrapI64 (by omega) (by omega)]
theorem dif_limbs : ∀ (k a b c : Nat), c ≤ 1 → b + c ≤ a → difL c (limbs k a) (limbs k b) = limbs k (a - b - c)
  | 0, a, b, c, hc, h => by simp [limbs, difL]
  | k + 1, a, b, c, hc, h => by
    have e := difX_nat (a := a % 4294967296) (b := b % 4294967296) (c := c) (by omega) (by omega) hc
    simp only [limbs, difL, e]
    by_cases hlt : a % 4294967296 < b % 4294967296 + c
    · have h1 : difB (((a % 4294967296 : Nat) : Int) - ((b % 4294967296 : Nat) : Int) - (c : Int)) = ((1 : Nat) : Int) := by unfold difB; rw [if_pos (by omega)]; rfl
      have h2 : difD (((a % 4294967296 : Nat) : Int) - ((b % 4294967296 : Nat) : Int) - (c : Int)) = (((a - b - c) % 4294967296 : Nat) : Int) := by
        unfold difD
        rw [if_pos (by omega), wrapI64 (by omega) (by omega)]
        rw [show ((a % 4294967296 : Nat) : Int) - ((b % 4294967296 : Nat) : Int) - (c : Int) + 4294967296 = ((a % 4294967296 + 4294967296 - b % 4294967296 - c : Nat) : Int) by omega, wrapU32]
        congr 1; omega
      rw [h1, h2, dif_limbs k _ _ 1 (by omega) (by omega)]
      congr 2; omega
    · have h1 : difB (((a % 4294967296 : Nat) : Int) - ((b % 4294967296 : Nat) : Int) - (c : Int)) = ((0 : Nat) : Int) := by unfold difB; rw [if_neg (by omega)]; rfl
      have h2 : difD (((a % 4294967296 : Nat) : Int) - ((b % 4294967296 : Nat) : Int) - (c : Int)) = (((a - b - c) % 4294967296 : Nat) : Int) := by
        unfold difD
        rw [if_neg (by omega)]
        rw [show ((a % 4294967296 : Nat) : Int) - ((b % 4294967296 : Nat) : Int) - (c : Int) = ((a % 4294967296 - b % 4294967296 - c : Nat) : Int) by omega, wrapU32]
        congr 1; omega
      rw [h1, h2, dif_limbs k _ _ 0 (by omega) (by omega)]
      congr 2; omega
theorem dif6 {a b : Nat} (h : b ≤ a) : difL 0 (limbs 6 a) (limbs 6 b) = limbs 6 (a - b) := dif_limbs 6 a b 0 (by omega) (by omega)
def cmpN (a b : Nat) : Int := if a < b then -1 else if b < a then 1 else 0
theorem cmp1_step {x y a b : Nat} {B : Nat} (ha : a < B) (hb : b < B) : cmp1 (x : Int) (y : Int) (cmpN a b) = cmpN (a + B * x) (b + B * y) := by
  unfold cmp1 cmpN
  by_cases h1 : x < y
  · have : a + B * x < b + B * y := by
      have : B * (x + 1) ≤ B * y := Nat.mul_le_mul_left _ h1
      rw [Nat.mul_succ] at this; omega
    rw [if_pos (by omega), if_pos this]
  · by_cases h2 : y < x
    · have : b + B * y < a + B * x := by
        have : B * (y + 1) ≤ B * x := Nat.mul_le_mul_left _ h2
        rw [Nat.mul_succ] at this; omega
      rw [if_neg (by omega), if_pos (by omega), if_neg (by omega), if_pos this]
    · have : x = y := by omega
      subst this
      rw [if_neg (by omega), if_neg (by omega)]
      simp only [Nat.add_lt_add_iff_right]
theorem six_split (a : Nat) (ha : a < W192) : ∃ x0 x1 x2 x3 x4 x5 : Nat, x0 < 4294967296 ∧ x1 < 4294967296 ∧ x2 < 4294967296 ∧ x3 < 4294967296 ∧ x4 < 4294967296 ∧ x5 < 4294967296 ∧
    limbs 6 a = [(x0 : Int), (x1 : Int), (x2 : Int), (x3 : Int), (x4 : Int), (x5 : Int)] ∧
    a = x0 + 4294967296 * x1 + 18446744073709551616 * x2 + 79228162514264337593543950336 * x3 + 340282366920938463463374607431768211456 * x4 + 1461501637330902918203684832716283019655932542976 * x5 := by
  refine ⟨a % 4294967296, a / 4294967296 % 4294967296, a / 4294967296 / 4294967296 % 4294967296, a / 4294967296 / 4294967296 / 4294967296 % 4294967296, a / 4294967296 / 4294967296 / 4294967296 / 4294967296 % 4294967296,
    a / 4294967296 / 4294967296 / 4294967296 / 4294967296 / 4294967296 % 4294967296, by omega, by omega, by omega, by omega, by omega, by omega, rfl, ?_⟩
  have : a < 6277101735386680763835789423207666416102355444464034512896 := ha
  omega
theorem cmp6_limbs {a b : Nat} (ha : a < W192) (hb : b < W192) : cmp6 (limbs 6 a) (limbs 6 b) = cmpN a b := by
  obtain ⟨x0, x1, x2, x3, x4, x5, p0, p1, p2, p3, p4, p5, e, e'⟩ := six_split a ha
  obtain ⟨y0, y1, y2, y3, y4, y5, q0, q1, q2, q3, q4, q5, f, f'⟩ := six_split b hb
  rw [e, f]
  show cmp1 (x5 : Int) y5 (cmp1 (x4 : Int) y4 (cmp1 (x3 : Int) y3 (cmp1 (x2 : Int) y2 (cmp1 (x1 : Int) y1 (cmp1 (x0 : Int) y0 0))))) = _
  rw [show (0 : Int) = cmpN 0 0 from rfl, cmp1_step (B := 1) (by omega) (by omega), cmp1_step (B := 4294967296) (by omega) (by omega), cmp1_step (B := 18446744073709551616) (by omega) (by omega),
    cmp1_step (B := 79228162514264337593543950336) (by omega) (by omega), cmp1_step (B := 340282366920938463463374607431768211456) (by omega) (by omega), cmp1_step (B := 1461501637330902918203684832716283019655932542976) (by omega) (by omega)]
  rw [e', f']
  congr 1 <;> omega
theorem eqLI_limbs {a b : Nat} (ha : a < W192) (hb : b < W192) : eqLI (limbs 6 a) (limbs 6 b) = decide (a = b) := by
  by_cases h : a = b
  · subst h; simp [eqLI]
  · rw [decide_eq_false h]
    unfold eqLI
    exact decide_eq_false fun hq => h (limbs_inj ha hb hq)
theorem eqLI_zero {a : Nat} (ha : a < W192) : eqLI (limbs 6 a) [0, 0, 0, 0, 0, 0] = decide (a = 0) := eqLI_limbs (b := 0) ha (by decide)
/-! ### Products -/
def mulS (c x y o : Int) : Int := IntKind.wrap .u64 ((IntKind.wrap .u64 ((IntKind.wrap .u64 ((IntKind.wrap .u64 x) * (IntKind.wrap .u64 y))) + (IntKind.wrap .u64 o))) + c)
def mulD (c x y o : Int) : Int := IntKind.wrap .u64 (c + (IntKind.wrap .u64 ((IntKind.wrap .u64 ((IntKind.wrap .u64 x) * (IntKind.wrap .u64 y))) + (IntKind.wrap .u64 o))))
theorem mulDEq : mulD = mulS := by funext c x y o; unfold mulD mulS; rw [Int.add_comm]
def mulRow (F : Int → Int → Int → Int → Int) (x c : Int) : List Int → List Int → List Int × Int
  | y :: ys, o :: os => (loS (F c x y o) :: (mulRow F x (hiS (F c x y o)) ys os).1, (mulRow F x (hiS (F c x y o)) ys os).2)
  | _, _ => ([], c)
theorem mul_le {x y : Nat} (hx : x < 4294967296) (hy : y < 4294967296) : x * y ≤ 18446744065119617025 := by
  have := Nat.mul_le_mul (show x ≤ 4294967295 by omega) (show y ≤ 4294967295 by omega)
  omega
theorem mulS_nat {c x y o : Nat} (hc : c < 4294967296) (hx : x < 4294967296) (hy : y < 4294967296) (ho : o < 4294967296) : mulS c x y o = ((x * y + o + c : Nat) : Int) := by
  have := mul_le hx hy
  unfold mulS
  rw [wrapU64N, wrapU64N, wrapU64N, Nat.mod_eq_of_lt (show x < 18446744073709551616 by omega), Nat.mod_eq_of_lt (show y < 18446744073709551616 by omega), Nat.mod_eq_of_lt (show o < 18446744073709551616 by omega), ← Int.natCast_mul, wrapU64N,
    Nat.mod_eq_of_lt (by omega), ← Int.natCast_add, wrapU64N, Nat.mod_eq_of_lt (by omega), ← Int.natCast_add, wrapU64N, Nat.mod_eq_of_lt (by omega)]
theorem mulRow_limbs {x : Nat} (hx : x < 4294967296) : ∀ (k b o c : Nat), c < 4294967296 →
    mulRow mulS x c (limbs k b) (limbs k o) = (limbs k (x * b + o + c), (((x * (b % 4294967296 ^ k) + o % 4294967296 ^ k + c) / 4294967296 ^ k : Nat) : Int))
  | 0, b, o, c, hc => by simp [limbs, mulRow, Nat.mod_one]
  | k + 1, b, o, c, hc => by
    have e := mulS_nat (c := c) (x := x) (y := b % 4294967296) (o := o % 4294967296) hc hx (by omega) (by omega)
    have hm := mul_le hx (show b % 4294967296 < 4294967296 by omega)
    simp only [limbs, mulRow, e]
    have h1 : hiS ((x * (b % 4294967296) + o % 4294967296 + c : Nat) : Int) = (((x * (b % 4294967296) + o % 4294967296 + c) / 4294967296 : Nat) : Int) := fdivNat _ 4294967296
    have hb : x * b = x * (b % 4294967296) + 4294967296 * (x * (b / 4294967296)) := by
      conv => lhs; rw [← Nat.mod_add_div b 4294967296]
      rw [Nat.mul_add, Nat.mul_left_comm]
    have h2 : loS ((x * (b % 4294967296) + o % 4294967296 + c : Nat) : Int) = (((x * b + o + c) % 4294967296 : Nat) : Int) := by
      unfold loS; rw [wrapU32, hb]; congr 1; omega
    rw [h1, h2, mulRow_limbs hx k _ _ _ (by omega)]
    have e1 : x * (b / 4294967296) + o / 4294967296 + (x * (b % 4294967296) + o % 4294967296 + c) / 4294967296 = (x * b + o + c) / 4294967296 := by rw [hb]; omega
    rw [e1]
    refine Prod.ext rfl ?_
    show (((x * (b / 4294967296 % 4294967296 ^ k) + o / 4294967296 % 4294967296 ^ k + (x * (b % 4294967296) + o % 4294967296 + c) / 4294967296) / 4294967296 ^ k : Nat) : Int) = _
    congr 1
    have p : 4294967296 ^ (k + 1) = 4294967296 * 4294967296 ^ k := by rw [Nat.pow_succ, Nat.mul_comm]
    rw [p, Nat.mod_mul, Nat.mod_mul (x := o), ← Nat.div_div_eq_div_mul, Nat.mul_add, Nat.mul_left_comm x 4294967296]
    congr 1
    generalize x * (b / 4294967296 % 4294967296 ^ k) = u
    generalize o / 4294967296 % 4294967296 ^ k = v
    omega
theorem limbs_add : ∀ (j k n : Nat), limbs (j + k) n = limbs j n ++ limbs k (n / 4294967296 ^ j)
  | 0, k, n => by simp [limbs]
  | j + 1, k, n => by
    rw [show j + 1 + k = (j + k) + 1 by omega]
    simp only [limbs, limbs_add j k, List.cons_append]
    rw [Nat.div_div_eq_div_mul, Nat.pow_succ, Nat.mul_comm (4294967296 ^ j)]
theorem limbs_mod : ∀ (k n M : Nat), limbs k (n + 4294967296 ^ k * M) = limbs k n
  | 0, n, M => rfl
  | k + 1, n, M => by
    simp only [limbs]
    have p : 4294967296 ^ (k + 1) * M = 4294967296 * (4294967296 ^ k * M) := by rw [Nat.pow_succ]; simp only [Nat.mul_assoc, Nat.mul_left_comm]
    rw [p, show (n + 4294967296 * (4294967296 ^ k * M)) % 4294967296 = n % 4294967296 by omega, show (n + 4294967296 * (4294967296 ^ k * M)) / 4294967296 = n / 4294967296 + 4294967296 ^ k * M by omega, limbs_mod k]
theorem limbs_modEq (k n : Nat) : limbs k (n % 4294967296 ^ k) = limbs k n := by
  conv => rhs; rw [← Nat.mod_add_div n (4294967296 ^ k), limbs_mod]
/-! ### Shifts -/
theorem ofInt_nat (k n : Nat) : (BitVec.ofInt k (n : Int)).toNat = n % 2 ^ k := by
  rw [BitVec.ofInt_natCast, BitVec.toNat_ofNat]
theorem or32 {x y : Nat} (hx : x < 4294967296) (hy : y < 4294967296) : ibits .or .u32 (x : Int) (y : Int) = ((x ||| y : Nat) : Int) := by
  have h : x ||| y < 2 ^ 32 := Nat.or_lt_two_pow hx hy
  show IntKind.wrap .u32 ((BitVec.ofInt 32 (x : Int) ||| BitVec.ofInt 32 (y : Int)).toNat : Int) = _
  rw [BitVec.toNat_or, ofInt_nat, ofInt_nat, Nat.mod_eq_of_lt hx, Nat.mod_eq_of_lt hy, wrapU32, Nat.mod_eq_of_lt h]
theorem or64 {x y : Nat} (hx : x < 18446744073709551616) (hy : y < 18446744073709551616) : ibits .or .u64 (x : Int) (y : Int) = ((x ||| y : Nat) : Int) := by
  have h : x ||| y < 2 ^ 64 := Nat.or_lt_two_pow hx hy
  show IntKind.wrap .u64 ((BitVec.ofInt 64 (x : Int) ||| BitVec.ofInt 64 (y : Int)).toNat : Int) = _
  rw [BitVec.toNat_or, ofInt_nat, ofInt_nat, Nat.mod_eq_of_lt hx, Nat.mod_eq_of_lt hy, wrapU64N, Nat.mod_eq_of_lt h]
theorem and64 {x : Nat} (hx : x < 18446744073709551616) : ibits .and .u64 (x : Int) 4294967295 = ((x % 4294967296 : Nat) : Int) := by
  show IntKind.wrap .u64 ((BitVec.ofInt 64 (x : Int) &&& BitVec.ofInt 64 ((4294967295 : Nat) : Int)).toNat : Int) = _
  rw [BitVec.toNat_and, ofInt_nat, ofInt_nat, Nat.mod_eq_of_lt hx, Nat.mod_eq_of_lt (by decide : 4294967295 < 2 ^ 64), show (4294967295 : Nat) = 2 ^ 32 - 1 from rfl, Nat.and_two_pow_sub_one_eq_mod, wrapU64N, Nat.mod_eq_of_lt (show x % 2 ^ 32 < 18446744073709551616 by omega)]
theorem or_is_add (x y i : Nat) (hy : y < 2 ^ i) : x * 2 ^ i ||| y = x * 2 ^ i + y := by
  have e := Nat.two_pow_add_eq_or_of_lt hy x
  rw [Nat.mul_comm] at e
  exact e.symm
theorem pow_split {r : Nat} (hr : r ≤ 32) : 4294967296 = 2 ^ (32 - r) * 2 ^ r := by
  rw [← Nat.pow_add, Nat.sub_add_cancel hr]
theorem mod_up {r : Nat} (hr : r ≤ 32) (x : Nat) : x * 2 ^ r % 4294967296 = (x % 2 ^ (32 - r)) * 2 ^ r := by
  conv => lhs; rw [pow_split hr]
  exact Nat.mul_mod_mul_right _ _ _
theorem up_lt {r : Nat} (hr : r ≤ 32) (x c : Nat) (hc : c < 2 ^ r) : x * 2 ^ r % 4294967296 + c < 4294967296 := by
  rw [mod_up hr]
  have h1 : x % 2 ^ (32 - r) + 1 ≤ 2 ^ (32 - r) := Nat.mod_lt _ (Nat.two_pow_pos _)
  have h2 := Nat.mul_le_mul_right (2 ^ r) h1
  rw [← pow_split hr, Nat.add_mul] at h2
  omega
theorem up_or {r : Nat} (hr : r ≤ 32) (x c : Nat) (hc : c < 2 ^ r) : (x * 2 ^ r % 4294967296) ||| c = x * 2 ^ r % 4294967296 + c := by
  rw [mod_up hr]; exact or_is_add _ _ _ hc
theorem up_step {r : Nat} (hr : r ≤ 32) (k x c M : Nat) (hc : c < 2 ^ r) : limbs (k + 1) (x * 2 ^ r + c + 4294967296 * M) = ((x * 2 ^ r % 4294967296 + c : Nat) : Int) :: limbs k (x * 2 ^ r / 4294967296 + M) := by
  have h := up_lt hr x c hc
  simp only [limbs]
  generalize x * 2 ^ r = t at *
  rw [show (t + c + 4294967296 * M) % 4294967296 = t % 4294967296 + c by omega, show (t + c + 4294967296 * M) / 4294967296 = t / 4294967296 + M by omega]
theorem carry_up {r x : Nat} (hx : x < 4294967296) : x * 2 ^ r / 4294967296 < 2 ^ r := by
  refine Nat.div_lt_of_lt_mul ?_
  exact Nat.mul_lt_mul_of_pos_right hx (Nat.two_pow_pos r)
theorem shr_up {r x : Nat} (hr : r ≤ 32) : x / 2 ^ (32 - r) = x * 2 ^ r / 4294967296 := by
  conv => rhs; rw [pow_split hr]
  rw [Nat.mul_div_mul_right _ _ (Nat.two_pow_pos r)]
/-- six limbs, up by less than a limb -/
theorem up_six {r x0 x1 x2 x3 x4 x5 : Nat} (hr : r ≤ 32) (h0 : x0 < 4294967296) (h1 : x1 < 4294967296) (h2 : x2 < 4294967296) (h3 : x3 < 4294967296) (h4 : x4 < 4294967296) {N : Nat}
    (hN : N = (x0 + 4294967296 * x1 + 18446744073709551616 * x2 + 79228162514264337593543950336 * x3 + 340282366920938463463374607431768211456 * x4 + 1461501637330902918203684832716283019655932542976 * x5)) :
    limbs 6 (N * 2 ^ r) = [((x0 * 2 ^ r % 4294967296 : Nat) : Int), ((x1 * 2 ^ r % 4294967296 + x0 * 2 ^ r / 4294967296 : Nat) : Int), ((x2 * 2 ^ r % 4294967296 + x1 * 2 ^ r / 4294967296 : Nat) : Int),
      ((x3 * 2 ^ r % 4294967296 + x2 * 2 ^ r / 4294967296 : Nat) : Int), ((x4 * 2 ^ r % 4294967296 + x3 * 2 ^ r / 4294967296 : Nat) : Int), ((x5 * 2 ^ r % 4294967296 + x4 * 2 ^ r / 4294967296 : Nat) : Int)] := by
  have e : N * 2 ^ r = x0 * 2 ^ r + 0 + 4294967296 * (x1 * 2 ^ r + 4294967296 * (x2 * 2 ^ r + 4294967296 * (x3 * 2 ^ r + 4294967296 * (x4 * 2 ^ r + 4294967296 * (x5 * 2 ^ r + 4294967296 * 0))))) := by
    subst hN
    generalize 2 ^ r = P
    simp only [Nat.add_mul, Nat.mul_assoc]
    omega
  rw [e, up_step hr _ _ _ _ (Nat.two_pow_pos r)]
  rw [show ∀ u v w : Nat, u + (v + 4294967296 * w) = v + u + 4294967296 * w from fun u v w => by omega, up_step hr _ _ _ _ (carry_up h0)]
  rw [show ∀ u v w : Nat, u + (v + 4294967296 * w) = v + u + 4294967296 * w from fun u v w => by omega, up_step hr _ _ _ _ (carry_up h1)]
  rw [show ∀ u v w : Nat, u + (v + 4294967296 * w) = v + u + 4294967296 * w from fun u v w => by omega, up_step hr _ _ _ _ (carry_up h2)]
  rw [show ∀ u v w : Nat, u + (v + 4294967296 * w) = v + u + 4294967296 * w from fun u v w => by omega, up_step hr _ _ _ _ (carry_up h3)]
  rw [show ∀ u v w : Nat, u + (v + 4294967296 * w) = v + u + 4294967296 * w from fun u v w => by omega, up_step hr _ _ _ _ (carry_up h4)]
  rfl
theorem down_step {r : Nat} (hr : r ≤ 32) (k x M : Nat) (hx : x < 4294967296) : limbs (k + 1) ((x + 4294967296 * M) / 2 ^ r) = ((x / 2 ^ r + M * 2 ^ (32 - r) % 4294967296 : Nat) : Int) :: limbs k (M / 2 ^ r) := by
  have e1 : (x + 4294967296 * M) / 2 ^ r = x / 2 ^ r + M * 2 ^ (32 - r) := by
    conv => lhs; rw [pow_split hr]
    rw [Nat.mul_comm (2 ^ (32 - r)) (2 ^ r), Nat.mul_assoc, Nat.add_mul_div_left _ _ (Nat.two_pow_pos r), Nat.mul_comm M]
  have hc : x / 2 ^ r < 2 ^ (32 - r) := by
    refine Nat.div_lt_of_lt_mul ?_
    rw [Nat.mul_comm, ← pow_split hr]; exact hx
  have hl := up_lt (r := 32 - r) (by omega) M (x / 2 ^ r) hc
  have e2 : M * 2 ^ (32 - r) / 4294967296 = M / 2 ^ r := by
    have := shr_up (r := 32 - r) (x := M) (by omega)
    rw [← this]; congr 2; omega
  simp only [limbs]
  rw [e1, ← e2]
  generalize M * 2 ^ (32 - r) = t at *
  generalize x / 2 ^ r = c at *
  rw [show (c + t) % 4294967296 = c + t % 4294967296 by omega, show (c + t) / 4294967296 = t / 4294967296 by omega]
theorem down_mod {r : Nat} (hr : r ≤ 32) (x M : Nat) : (x + 4294967296 * M) * 2 ^ (32 - r) % 4294967296 = x * 2 ^ (32 - r) % 4294967296 := by
  rw [Nat.add_mul, Nat.mul_assoc, Nat.add_mul_mod_self_left]
theorem down_six {r x0 x1 x2 x3 x4 x5 : Nat} (hr : r ≤ 32) (h0 : x0 < 4294967296) (h1 : x1 < 4294967296) (h2 : x2 < 4294967296) (h3 : x3 < 4294967296) (h4 : x4 < 4294967296) (h5 : x5 < 4294967296) {N : Nat}
    (hN : N = (x0 + 4294967296 * x1 + 18446744073709551616 * x2 + 79228162514264337593543950336 * x3 + 340282366920938463463374607431768211456 * x4 + 1461501637330902918203684832716283019655932542976 * x5)) :
    limbs 6 (N / 2 ^ r) = [((x0 / 2 ^ r + x1 * 2 ^ (32 - r) % 4294967296 : Nat) : Int), ((x1 / 2 ^ r + x2 * 2 ^ (32 - r) % 4294967296 : Nat) : Int), ((x2 / 2 ^ r + x3 * 2 ^ (32 - r) % 4294967296 : Nat) : Int),
      ((x3 / 2 ^ r + x4 * 2 ^ (32 - r) % 4294967296 : Nat) : Int), ((x4 / 2 ^ r + x5 * 2 ^ (32 - r) % 4294967296 : Nat) : Int), ((x5 / 2 ^ r : Nat) : Int)] := by
  have e : N = x0 + 4294967296 * (x1 + 4294967296 * (x2 + 4294967296 * (x3 + 4294967296 * (x4 + 4294967296 * (x5 + 4294967296 * 0))))) := by
    subst hN; omega
  rw [e, down_step hr _ _ _ h0, down_step hr _ _ _ h1, down_step hr _ _ _ h2, down_step hr _ _ _ h3, down_step hr _ _ _ h4, down_step hr _ _ _ h5]
  simp only [down_mod hr, Nat.zero_mul, Nat.zero_mod, Nat.add_zero]
  rfl
end Go.Proofs.Ytobejeiffgehfaa.Sx
