/- Plain laws: products. Our own work. -/
import Derived.Test.YtobejeiffgehfaaPureI
namespace Go.Proofs.Ytobejeiffgehfaa.Sx
open Go
set_option linter.unusedVariables false
set_option linter.unusedSimpArgs false
set_option maxRecDepth 100000
theorem part_step (a b i : Nat) : (a % 4294967296 ^ i) * b + (dv i a % 4294967296) * b * 4294967296 ^ i = (a % 4294967296 ^ (i + 1)) * b := by
  rw [Nat.mod_pow_succ, dv_eq, Nat.add_mul, Nat.mul_right_comm, Nat.mul_comm (_ % _) (_ ^ i)]
theorem part_lt {a b : Nat} (i : Nat) (hb : b < W192) : (a % 4294967296 ^ i) * b < 4294967296 ^ (i + 6) := by
  rw [Nat.pow_add, show (4294967296 : Nat) ^ 6 = W192 from by decide]
  have h1 : a % 4294967296 ^ i < 4294967296 ^ i := Nat.mod_lt _ (Nat.pow_pos (by decide))
  exact Nat.mul_lt_mul'' h1 hb
theorem part_put (i : Nat) {a b : Nat} (hi : i < 6) (hb : b < W192) :
    List.set (limbs i ((a % 4294967296 ^ i) * b) ++ ((mulRow mulS ((dv i a % 4294967296 : Nat) : Int) 0 (limbs 6 b) (limbs 6 (dv i ((a % 4294967296 ^ i) * b)))).1 ++ limbs (6 - i) (dv (i + 6) ((a % 4294967296 ^ i) * b)))) (i + 6)
      (IntKind.wrap .u32 (mulRow mulS ((dv i a % 4294967296 : Nat) : Int) 0 (limbs 6 b) (limbs 6 (dv i ((a % 4294967296 ^ i) * b)))).2) = limbs 12 ((a % 4294967296 ^ (i + 1)) * b) := by
  rw [row_put i hi (Nat.mod_lt _ (by decide)) hb (part_lt i hb), part_step]
theorem g86s0 {α : Type} (n j a b : Nat) (hb : b < W192) (z : List Int) (k : List Int → Option α) : g86l0 (g86l2M (n + 7)) (limbs 6 a) (limbs 6 b) z k (j + 1) 0 (limbs 12 ((a % 4294967296 ^ 0) * b)) =
    g86l0 (g86l2M (n + 7)) (limbs 6 a) (limbs 6 b) z k j 1 (limbs 12 ((a % 4294967296 ^ 1) * b)) := by
  have h1 : ∀ out, g86l0 (g86l2M (n + 7)) (limbs 6 a) (limbs 6 b) z k (j + 1) 0 out = g86l2 0 ((dv 0 a % 4294967296 : Nat) : Int) (limbs 6 a) 0 (limbs 6 b) (limbs 6 b) z (fun c l => g86l0 (g86l2M (n + 7)) (limbs 6 a) (limbs 6 b) z k j 1 (List.set l 6 (IntKind.wrap .u32 c))) (n + 7) 0 0 out := by intro out; kernel_rfl
  rw [h1, g86row0, mulDEq]
  exact congrArg (fun l => g86l0 (g86l2M (n + 7)) (limbs 6 a) (limbs 6 b) z k j 1 l) (part_put 0 (by decide) hb)
theorem g86s1 {α : Type} (n j a b : Nat) (hb : b < W192) (z : List Int) (k : List Int → Option α) : g86l0 (g86l2M (n + 7)) (limbs 6 a) (limbs 6 b) z k (j + 1) 1 (limbs 12 ((a % 4294967296 ^ 1) * b)) =
    g86l0 (g86l2M (n + 7)) (limbs 6 a) (limbs 6 b) z k j 2 (limbs 12 ((a % 4294967296 ^ 2) * b)) := by
  have h1 : ∀ out, g86l0 (g86l2M (n + 7)) (limbs 6 a) (limbs 6 b) z k (j + 1) 1 out = g86l2 1 ((dv 1 a % 4294967296 : Nat) : Int) (limbs 6 a) 1 (limbs 6 b) (limbs 6 b) z (fun c l => g86l0 (g86l2M (n + 7)) (limbs 6 a) (limbs 6 b) z k j 2 (List.set l 7 (IntKind.wrap .u32 c))) (n + 7) 0 0 out := by intro out; kernel_rfl
  rw [h1, g86row1, mulDEq]
  exact congrArg (fun l => g86l0 (g86l2M (n + 7)) (limbs 6 a) (limbs 6 b) z k j 2 l) (part_put 1 (by decide) hb)
theorem g86s2 {α : Type} (n j a b : Nat) (hb : b < W192) (z : List Int) (k : List Int → Option α) : g86l0 (g86l2M (n + 7)) (limbs 6 a) (limbs 6 b) z k (j + 1) 2 (limbs 12 ((a % 4294967296 ^ 2) * b)) =
    g86l0 (g86l2M (n + 7)) (limbs 6 a) (limbs 6 b) z k j 3 (limbs 12 ((a % 4294967296 ^ 3) * b)) := by
  have h1 : ∀ out, g86l0 (g86l2M (n + 7)) (limbs 6 a) (limbs 6 b) z k (j + 1) 2 out = g86l2 2 ((dv 2 a % 4294967296 : Nat) : Int) (limbs 6 a) 2 (limbs 6 b) (limbs 6 b) z (fun c l => g86l0 (g86l2M (n + 7)) (limbs 6 a) (limbs 6 b) z k j 3 (List.set l 8 (IntKind.wrap .u32 c))) (n + 7) 0 0 out := by intro out; kernel_rfl
  rw [h1, g86row2, mulDEq]
  exact congrArg (fun l => g86l0 (g86l2M (n + 7)) (limbs 6 a) (limbs 6 b) z k j 3 l) (part_put 2 (by decide) hb)
theorem g86s3 {α : Type} (n j a b : Nat) (hb : b < W192) (z : List Int) (k : List Int → Option α) : g86l0 (g86l2M (n + 7)) (limbs 6 a) (limbs 6 b) z k (j + 1) 3 (limbs 12 ((a % 4294967296 ^ 3) * b)) =
    g86l0 (g86l2M (n + 7)) (limbs 6 a) (limbs 6 b) z k j 4 (limbs 12 ((a % 4294967296 ^ 4) * b)) := by
  have h1 : ∀ out, g86l0 (g86l2M (n + 7)) (limbs 6 a) (limbs 6 b) z k (j + 1) 3 out = g86l2 3 ((dv 3 a % 4294967296 : Nat) : Int) (limbs 6 a) 3 (limbs 6 b) (limbs 6 b) z (fun c l => g86l0 (g86l2M (n + 7)) (limbs 6 a) (limbs 6 b) z k j 4 (List.set l 9 (IntKind.wrap .u32 c))) (n + 7) 0 0 out := by intro out; kernel_rfl
  rw [h1, g86row3, mulDEq]
  exact congrArg (fun l => g86l0 (g86l2M (n + 7)) (limbs 6 a) (limbs 6 b) z k j 4 l) (part_put 3 (by decide) hb)
theorem g86s4 {α : Type} (n j a b : Nat) (hb : b < W192) (z : List Int) (k : List Int → Option α) : g86l0 (g86l2M (n + 7)) (limbs 6 a) (limbs 6 b) z k (j + 1) 4 (limbs 12 ((a % 4294967296 ^ 4) * b)) =
    g86l0 (g86l2M (n + 7)) (limbs 6 a) (limbs 6 b) z k j 5 (limbs 12 ((a % 4294967296 ^ 5) * b)) := by
  have h1 : ∀ out, g86l0 (g86l2M (n + 7)) (limbs 6 a) (limbs 6 b) z k (j + 1) 4 out = g86l2 4 ((dv 4 a % 4294967296 : Nat) : Int) (limbs 6 a) 4 (limbs 6 b) (limbs 6 b) z (fun c l => g86l0 (g86l2M (n + 7)) (limbs 6 a) (limbs 6 b) z k j 5 (List.set l 10 (IntKind.wrap .u32 c))) (n + 7) 0 0 out := by intro out; kernel_rfl
  rw [h1, g86row4, mulDEq]
  exact congrArg (fun l => g86l0 (g86l2M (n + 7)) (limbs 6 a) (limbs 6 b) z k j 5 l) (part_put 4 (by decide) hb)
theorem g86s5 {α : Type} (n j a b : Nat) (hb : b < W192) (z : List Int) (k : List Int → Option α) : g86l0 (g86l2M (n + 7)) (limbs 6 a) (limbs 6 b) z k (j + 1) 5 (limbs 12 ((a % 4294967296 ^ 5) * b)) =
    g86l0 (g86l2M (n + 7)) (limbs 6 a) (limbs 6 b) z k j 6 (limbs 12 ((a % 4294967296 ^ 6) * b)) := by
  have h1 : ∀ out, g86l0 (g86l2M (n + 7)) (limbs 6 a) (limbs 6 b) z k (j + 1) 5 out = g86l2 5 ((dv 5 a % 4294967296 : Nat) : Int) (limbs 6 a) 5 (limbs 6 b) (limbs 6 b) z (fun c l => g86l0 (g86l2M (n + 7)) (limbs 6 a) (limbs 6 b) z k j 6 (List.set l 11 (IntKind.wrap .u32 c))) (n + 7) 0 0 out := by intro out; kernel_rfl
  rw [h1, g86row5, mulDEq]
  exact congrArg (fun l => g86l0 (g86l2M (n + 7)) (limbs 6 a) (limbs 6 b) z k j 6 l) (part_put 5 (by decide) hb)
theorem g86rows {α : Type} (n : Nat) {a b : Nat} (ha : a < W192) (hb : b < W192) (z : List Int) (k : List Int → Option α) :
    g86l0 (g86l2M (n + 7)) (limbs 6 a) (limbs 6 b) z k (n + 7) 0 [0, 0, 0, 0, 0, 0, 0, 0, 0, 0, 0, 0] = k (limbs 12 (a * b)) := by
  have h0 : ([0, 0, 0, 0, 0, 0, 0, 0, 0, 0, 0, 0] : List Int) = limbs 12 ((a % 4294967296 ^ 0) * b) := by rw [Nat.pow_zero, Nat.mod_one, Nat.zero_mul]; rfl
  rw [h0, g86s0 n (n + 6) a b hb z, g86s1 n (n + 5) a b hb z, g86s2 n (n + 4) a b hb z, g86s3 n (n + 3) a b hb z, g86s4 n (n + 2) a b hb z, g86s5 n (n + 1) a b hb z, show (4294967296 : Nat) ^ 6 = W192 from by decide, Nat.mod_eq_of_lt ha]
  rfl
theorem chkStep {β : Type} (x : Nat) (A Z : β) : cond (((x : Nat) : Int) != 0) A Z = if x = 0 then Z else A := by
  by_cases h : x = 0
  · subst h; rfl
  · rw [if_neg h, show (((x : Nat) : Int) != 0) = true by simpa using h]; rfl
theorem chkAll {β : Type} (x0 x1 x2 x3 x4 x5 : Nat) (A Z : β) (p : Prop) [Decidable p] (hp : p ↔ x0 = 0 ∧ x1 = 0 ∧ x2 = 0 ∧ x3 = 0 ∧ x4 = 0 ∧ x5 = 0) :
    cond (((x0 : Nat) : Int) != 0) A (cond (((x1 : Nat) : Int) != 0) A (cond (((x2 : Nat) : Int) != 0) A (cond (((x3 : Nat) : Int) != 0) A (cond (((x4 : Nat) : Int) != 0) A (cond (((x5 : Nat) : Int) != 0) A Z))))) = cond (decide p) Z A := by
  simp only [chkStep]
  by_cases h0 : x0 = 0
  · by_cases h1 : x1 = 0
    · by_cases h2 : x2 = 0
      · by_cases h3 : x3 = 0
        · by_cases h4 : x4 = 0
          · by_cases h5 : x5 = 0
            · rw [decide_eq_true (hp.2 ⟨h0, h1, h2, h3, h4, h5⟩), if_pos h0, if_pos h1, if_pos h2, if_pos h3, if_pos h4, if_pos h5]; rfl
            · rw [decide_eq_false (fun h => h5 (hp.1 h).2.2.2.2.2), if_pos h0, if_pos h1, if_pos h2, if_pos h3, if_pos h4, if_neg h5]; rfl
          · rw [decide_eq_false (fun h => h4 (hp.1 h).2.2.2.2.1), if_pos h0, if_pos h1, if_pos h2, if_pos h3, if_neg h4]; rfl
        · rw [decide_eq_false (fun h => h3 (hp.1 h).2.2.2.1), if_pos h0, if_pos h1, if_pos h2, if_neg h3]; rfl
      · rw [decide_eq_false (fun h => h2 (hp.1 h).2.2.1), if_pos h0, if_pos h1, if_neg h2]; rfl
    · rw [decide_eq_false (fun h => h1 (hp.1 h).2.1), if_pos h0, if_neg h1]; rfl
  · rw [decide_eq_false (fun h => h0 (hp.1 h).1), if_neg h0]; rfl
theorem chk6 {β : Type} (N : Nat) (hN : N < W192 * W192) (A Z : β) :
    cond (((dv 6 N % 4294967296 : Nat) : Int) != 0) A (cond (((dv 7 N % 4294967296 : Nat) : Int) != 0) A (cond (((dv 8 N % 4294967296 : Nat) : Int) != 0) A (cond (((dv 9 N % 4294967296 : Nat) : Int) != 0) A
      (cond (((dv 10 N % 4294967296 : Nat) : Int) != 0) A (cond (((dv 11 N % 4294967296 : Nat) : Int) != 0) A Z))))) = cond (decide (N < W192)) Z A := by
  apply chkAll
  have e : ∀ j, dv (6 + j) N = dv j (N / W192) := fun j => by rw [dv_eq, dv_eq, Nat.div_div_eq_div_mul, Nat.pow_add]
  rw [show dv 6 N = _ from e 0, show dv 7 N = _ from e 1, show dv 8 N = _ from e 2, show dv 9 N = _ from e 3, show dv 10 N = _ from e 4, show dv 11 N = _ from e 5]
  have hM : N / W192 < 6277101735386680763835789423207666416102355444464034512896 := Nat.div_lt_of_lt_mul hN
  have hz : N < W192 ↔ N / W192 = 0 := by
    constructor
    · exact Nat.div_eq_of_lt
    · intro h; exact (Nat.div_eq_zero_iff_lt (by decide)).1 h
  rw [hz]
  generalize N / W192 = M at *
  simp only [dv]
  constructor
  · rintro rfl; decide
  · rintro ⟨h0, h1, h2, h3, h4, h5⟩; omega
theorem g86chk {α : Type} (n N : Nat) (hN : N < W192 * W192) (z : List Int) (k1 : List Int → Option α) (k2 : Option α) :
    g86l4 6 6 6 6 z (limbs 12 N) k1 k2 (n + 7) 0 = cond (decide (N < W192)) k2 (k1 [0, 0, 0, 0, 0, 0]) := by
  rw [← chk6 N hN]
  kernel_rfl
theorem mul_bound {a b : Nat} (ha : a < W192) (hb : b < W192) : a * b < W192 * W192 := Nat.mul_lt_mul'' ha hb
theorem g86L {α : Type} (n : Nat) {a b : Nat} (ha : a < W192) (hb : b < W192) (k : List Int → Bool → Option α) :
    g86 (n + 7) (limbs 6 a) (limbs 6 b) k = cond (decide (a * b < W192)) (k (limbs 6 (a * b)) false) (k [0, 0, 0, 0, 0, 0] true) := by
  unfold g86 g86b
  show g86l0 (g86l2M (n + 7)) (limbs 6 a) (limbs 6 b) [0, 0, 0, 0, 0, 0] (fun l835 => g86l4 6 6 6 6 [0, 0, 0, 0, 0, 0] l835 (fun l850 => k l850 true) (k (List.take 6 (List.drop 0 l835)) false) (n + 7) 0) (n + 7) 0 [0, 0, 0, 0, 0, 0, 0, 0, 0, 0, 0, 0] = _
  rw [g86rows n ha hb]
  simp only [g86chk n (a * b) (mul_bound ha hb)]
  rfl
/-- the product of wide integers -/
theorem g54L {α : Type} (n : Nat) {a b : Nat} (ha : a < W192) (hb : b < W192) (q r o : Bool) (k : Bool → List Int → Bool → Option α) :
    g54 (n + 7) q (limbs 6 a) r (limbs 6 b) o k = cond (decide (a * b < W192)) (k ((!(q == r)) && !(decide (a * b = 0))) (limbs 6 (a * b)) o) (k false [0, 0, 0, 0, 0, 0] true) := by
  simp only [g54, g54b, g86L n ha hb]
  have hz : ∀ (s : Bool) (k : Bool → Option α), g84 (n + 7) s [0, 0, 0, 0, 0, 0] k = k false := fun s k => by
    have := g84L (a := 0) (n + 7) s (by decide) k
    rw [show limbs 6 0 = [0, 0, 0, 0, 0, 0] from rfl] at this
    rw [this]; cases s <;> rfl
  by_cases h : a * b < W192
  · rw [decide_eq_true h]
    simp only [cond_true, g84L (n + 7) _ h]
    cases o <;> rfl
  · rw [decide_eq_false h]
    simp only [cond_false, hz]
    cases o <;> rfl
end Go.Proofs.Ytobejeiffgehfaa.Sx
