/- Plain laws: shifts of sizes. Our own work. -/
import Derived.Test.YtobejeiffgehfaaPureN
namespace Go.Proofs.Ytobejeiffgehfaa.Sx
open Go
set_option linter.unusedVariables false
set_option linter.unusedSimpArgs false
set_option maxRecDepth 100000
theorem limbs_getD : ∀ (k a i : Nat), i < k → List.getD (limbs k a) i 0 = ((dv i a % 4294967296 : Nat) : Int)
  | k + 1, a, 0, _ => rfl
  | k + 1, a, i + 1, h => by
    show List.getD (limbs k (a / 4294967296)) i 0 = _
    rw [limbs_getD k _ i (by omega)]; rfl
theorem pow_cast (r : Nat) : ((2 : Int) ^ r) = ((2 ^ r : Nat) : Int) := by simp
theorem shl32 (x r : Nat) : IntKind.wrap .u32 ((x : Int) * 2 ^ r) = ((x * 2 ^ r % 4294967296 : Nat) : Int) := by
  rw [pow_cast, ← Int.natCast_mul, wrapU32]
theorem shr32 (x r : Nat) : Int.fdiv (x : Int) (2 ^ r) = ((x / 2 ^ r : Nat) : Int) := by
  rw [pow_cast]; exact fdivNat _ _
/-- one limb of a size that is shifted up: itself, and the limb below it -/
def upE (r p x : Nat) : Int := ((x * 2 ^ r % 4294967296 + p * 2 ^ r / 4294967296 : Nat) : Int)
def below (a i : Nat) : Nat := if i = 0 then 0 else dv (i - 1) a % 4294967296
theorem g68s {α : Type} (j v q r a : Nat) (hv : v < 6) (hq : q ≤ v) (hr : r < 32) (z out : List Int) (ho : out.length = 6) (k : List Int → Option α) :
    g68l0 (q : Int) (r : Int) (limbs 6 a) z k (j + 1) (v : Int) out = g68l0 (q : Int) (r : Int) (limbs 6 a) z k j ((v : Int) - 1) (List.set out v (upE r (below a (v - q)) (dv (v - q) a % 4294967296))) := by
  simp only [g68l0, g68l0b]
  rw [decide_eq_true (show (v : Int) ≥ (q : Int) by omega), wrapI64 (x := (v : Int) - q) (by omega) (by omega), show (v : Int) - (q : Int) = ((v - q : Nat) : Int) by omega]
  simp only [cond_true, Int.toNat_natCast]
  rw [if_pos (by omega), if_pos (by omega), if_neg (by omega), if_pos (by omega), if_pos (by omega), limbs_getD 6 a (v - q) (by omega), Nat.min_eq_left (show r ≤ 32 by omega), shl32, wrapI64 (x := (v : Int) - 1) (by omega) (by omega)]
  unfold upE below
  by_cases h0 : r = 0
  · subst h0
    rw [decide_eq_false (show ¬ ((0 : Nat) : Int) > 0 by omega)]
    simp only [cond_false, Nat.pow_zero, Nat.mul_one]
    have : (if v - q = 0 then 0 else dv (v - q - 1) a % 4294967296) / 4294967296 = 0 := by
      split
      · rfl
      · exact Nat.div_eq_of_lt (Nat.mod_lt _ (by decide))
    rw [this]; rfl
  · rw [decide_eq_true (show (r : Int) > 0 by omega)]
    simp only [cond_true]
    by_cases h1 : v = q
    · subst h1
      rw [decide_eq_false (show ¬ (v : Int) > (v : Int) by omega), Nat.sub_self, if_pos (show (0 : Nat) = 0 from rfl)]
      simp only [cond_false, Nat.zero_mul, Nat.zero_div, Nat.add_zero]
    · rw [decide_eq_true (show (v : Int) > (q : Int) by omega), if_neg (show ¬ v - q = 0 by omega)]
      simp only [cond_true]
      rw [wrapI64 (x := ((v - q : Nat) : Int) - 1) (by omega) (by omega), show ((v - q : Nat) : Int) - 1 = ((v - q - 1 : Nat) : Int) by omega, wrapI64 (x := 32 - (r : Int)) (by omega) (by omega), show 32 - (r : Int) = ((32 - r : Nat) : Int) by omega]
      simp only [Int.toNat_natCast]
      rw [if_pos (by omega), if_pos (by omega), if_pos (by omega), if_pos (by omega), if_neg (by omega), if_pos (by omega), if_pos (by omega), Nat.min_eq_left (show 32 - r ≤ 32 by omega), limbs_getD 6 a (v - q - 1) (by omega), shr32]
      have hlt : dv (v - q - 1) a % 4294967296 < 4294967296 := Nat.mod_lt _ (by decide)
      rw [shr_up (by omega)]
      have hc := carry_up (r := r) hlt
      have hu := up_lt (r := r) (by omega) (dv (v - q) a % 4294967296) _ hc
      have hset : List.getD (List.set out v ((dv (v - q) a % 4294967296 * 2 ^ r % 4294967296 : Nat) : Int)) v 0 = ((dv (v - q) a % 4294967296 * 2 ^ r % 4294967296 : Nat) : Int) := by
        simp [List.getD, List.getElem?_set, ho, hv]
      rw [hset, or32 (Nat.mod_lt _ (by decide)) (by omega), up_or (by omega) _ _ hc, List.set_set]
theorem g68e {α : Type} (j v q : Nat) (w : Int) (r : Int) (la z out : List Int) (hw : w < q) (k : List Int → Option α) : g68l0 (q : Int) r la z k (j + 1) w out = k out := by
  simp only [g68l0, g68l0b]
  rw [decide_eq_false (by omega)]; rfl
/-- the limbs of a size that is shifted up by q limbs and r bits -/
def upList (q r a : Nat) : List Int := (List.range 6).map fun i => if i < q then 0 else upE r (below a (i - q)) (dv (i - q) a % 4294967296)
theorem limbs_pow (q k N : Nat) : limbs (q + k) (N * 4294967296 ^ q) = List.replicate q 0 ++ limbs k N := by
  rw [limbs_add, Nat.mul_div_cancel _ (Nat.pow_pos (by decide))]
  congr 1
  have := limbs_mod q 0 N
  rw [Nat.zero_add, Nat.mul_comm] at this
  rw [this]
  clear this
  induction q with
  | zero => rfl
  | succ q ih => simp only [limbs, List.replicate_succ, Nat.zero_mod, Nat.zero_div, ih]; rfl
theorem limbs_take : ∀ (k j N : Nat), (limbs (k + j) N).take k = limbs k N
  | 0, j, N => by simp [limbs]
  | k + 1, j, N => by
    rw [show k + 1 + j = (k + j) + 1 by omega]
    simp only [limbs, List.take_succ_cons, limbs_take k j]
theorem upList_eq (q r : Nat) {a : Nat} (ha : a < W192) (hq : q < 6) (hr : r < 32) : upList q r a = limbs 6 (a * 2 ^ (32 * q + r)) := by
  have e1 : a * 2 ^ (32 * q + r) = (a * 2 ^ r) * 4294967296 ^ q := by
    rw [Nat.pow_add, Nat.pow_mul, show (2 : Nat) ^ 32 = 4294967296 from rfl, Nat.mul_comm (4294967296 ^ q), Nat.mul_assoc]
  obtain ⟨x0, x1, x2, x3, x4, x5, p0, p1, p2, p3, p4, p5, e, e'⟩ := six_split a ha
  have hs := up_six (r := r) (by omega) p0 p1 p2 p3 p4 e'
  have d : ∀ i, i < 6 → ((dv i a % 4294967296 : Nat) : Int) = List.getD [(x0 : Int), x1, x2, x3, x4, x5] i 0 := fun i hi => by rw [← limbs_getD 6 a i hi, e]
  have d0 : dv 0 a % 4294967296 = x0 := by have := d 0 (by decide); exact Int.ofNat.inj this
  have d1 : dv 1 a % 4294967296 = x1 := by have := d 1 (by decide); exact Int.ofNat.inj this
  have d2 : dv 2 a % 4294967296 = x2 := by have := d 2 (by decide); exact Int.ofNat.inj this
  have d3 : dv 3 a % 4294967296 = x3 := by have := d 3 (by decide); exact Int.ofNat.inj this
  have d4 : dv 4 a % 4294967296 = x4 := by have := d 4 (by decide); exact Int.ofNat.inj this
  have d5 : dv 5 a % 4294967296 = x5 := by have := d 5 (by decide); exact Int.ofNat.inj this
  have key : ∀ i, i < 6 → upE r (below a i) (dv i a % 4294967296) = List.getD (limbs 6 (a * 2 ^ r)) i 0 := by
    intro i hi
    rw [hs]
    match i, hi with
    | 0, _ => simp only [upE, below, if_pos, d0, Nat.zero_mul, Nat.zero_div, Nat.add_zero]; rfl
    | 1, _ => simp only [upE, below, Nat.succ_ne_zero, if_neg, not_false_eq_true, Nat.add_sub_cancel, Nat.sub_self, d0, d1]; rfl
    | 2, _ => simp only [upE, below, d2, show 2 - 1 = 1 from rfl, d1]; rfl
    | 3, _ => simp only [upE, below, d3, show 3 - 1 = 2 from rfl, d2]; rfl
    | 4, _ => simp only [upE, below, d4, show 4 - 1 = 3 from rfl, d3]; rfl
    | 5, _ => simp only [upE, below, d5, show 5 - 1 = 4 from rfl, d4]; rfl
  rw [e1]
  have e2 : limbs 6 (a * 2 ^ r * 4294967296 ^ q) = List.replicate q 0 ++ limbs (6 - q) (a * 2 ^ r) := by
    have := limbs_pow q (6 - q) (a * 2 ^ r)
    rw [show q + (6 - q) = 6 by omega] at this
    exact this
  rw [e2]
  unfold upList
  apply List.ext_getElem
  · simp [limbs_length]; omega
  · intro i h1 h2
    simp only [List.length_map, List.length_range] at h1
    simp only [List.getElem_map, List.getElem_range]
    by_cases hi : i < q
    · rw [if_pos hi, List.getElem_append_left (by simpa using hi)]; simp
    · rw [if_neg hi, key (i - q) (by omega), List.getElem_append_right (by simpa using (by omega : q ≤ i))]
      have ht := limbs_take (6 - q) q (a * 2 ^ r)
      rw [show 6 - q + q = 6 by omega] at ht
      simp only [List.length_replicate]
      rw [List.getD_eq_getElem?_getD, List.getElem?_eq_getElem (by rw [limbs_length]; omega), Option.getD_some]
      simp only [← ht, List.getElem_take]
theorem g68E {α : Type} (n q r a : Nat) (hq : q < 6) (hr : r < 32) (ha : a < W192) (z : List Int) (k : List Int → Option α) :
    g68l0 (q : Int) (r : Int) (limbs 6 a) z k (n + 7) 5 [0, 0, 0, 0, 0, 0] = k (limbs 6 (a * 2 ^ (32 * q + r))) := by
  rw [← upList_eq q r ha hq hr]
  have s := fun j v (hv : v < 6) (h : q ≤ v) out ho => g68s j v q r a hv h hr z out ho k
  match q, hq with
  | 0, _ =>
    refine (s (n + 6) 5 (by omega) (by omega) _ rfl).trans ?_
    refine (s (n + 5) 4 (by omega) (by omega) _ rfl).trans ?_
    refine (s (n + 4) 3 (by omega) (by omega) _ rfl).trans ?_
    refine (s (n + 3) 2 (by omega) (by omega) _ rfl).trans ?_
    refine (s (n + 2) 1 (by omega) (by omega) _ rfl).trans ?_
    refine (s (n + 1) 0 (by omega) (by omega) _ rfl).trans ?_
    exact g68e n 0 0 _ _ _ _ _ (by omega) k
  | 1, _ =>
    refine (s (n + 6) 5 (by omega) (by omega) _ rfl).trans ?_
    refine (s (n + 5) 4 (by omega) (by omega) _ rfl).trans ?_
    refine (s (n + 4) 3 (by omega) (by omega) _ rfl).trans ?_
    refine (s (n + 3) 2 (by omega) (by omega) _ rfl).trans ?_
    refine (s (n + 2) 1 (by omega) (by omega) _ rfl).trans ?_
    exact g68e (n + 1) 0 1 _ _ _ _ _ (by omega) k
  | 2, _ =>
    refine (s (n + 6) 5 (by omega) (by omega) _ rfl).trans ?_
    refine (s (n + 5) 4 (by omega) (by omega) _ rfl).trans ?_
    refine (s (n + 4) 3 (by omega) (by omega) _ rfl).trans ?_
    refine (s (n + 3) 2 (by omega) (by omega) _ rfl).trans ?_
    exact g68e (n + 2) 0 2 _ _ _ _ _ (by omega) k
  | 3, _ =>
    refine (s (n + 6) 5 (by omega) (by omega) _ rfl).trans ?_
    refine (s (n + 5) 4 (by omega) (by omega) _ rfl).trans ?_
    refine (s (n + 4) 3 (by omega) (by omega) _ rfl).trans ?_
    exact g68e (n + 3) 0 3 _ _ _ _ _ (by omega) k
  | 4, _ =>
    refine (s (n + 6) 5 (by omega) (by omega) _ rfl).trans ?_
    refine (s (n + 5) 4 (by omega) (by omega) _ rfl).trans ?_
    exact g68e (n + 4) 0 4 _ _ _ _ _ (by omega) k
  | 5, _ =>
    refine (s (n + 6) 5 (by omega) (by omega) _ rfl).trans ?_
    exact g68e (n + 5) 0 5 _ _ _ _ _ (by omega) k
theorem div32 {p : Nat} (hp : p < 192) : IntKind.wrap .i64 (Int.tdiv (p : Int) 32) = ((p / 32 : Nat) : Int) := by
  rw [show (32 : Int) = ((32 : Nat) : Int) from rfl, ← Int.ofNat_tdiv, wrapI64 (by omega) (by omega)]
theorem mod32 (p : Nat) : Int.tmod (p : Int) 32 = ((p % 32 : Nat) : Int) := by
  rw [show (32 : Int) = ((32 : Nat) : Int) from rfl, ← Int.ofNat_tmod]
/-- up (impl) -/
theorem g68L {α : Type} (n p : Nat) {a : Nat} (hp : p < 192) (ha : a < W192) (k : List Int → Option α) : g68 (n + 7) (limbs 6 a) (p : Int) k = k (limbs 6 (a * 2 ^ p)) := by
  unfold g68 g68b
  show g68l0 (IntKind.wrap .i64 (Int.tdiv (p : Int) 32)) (Int.tmod (p : Int) 32) (limbs 6 a) [0, 0, 0, 0, 0, 0] (fun l => k l) (n + 7) 5 [0, 0, 0, 0, 0, 0] = _
  rw [div32 hp, mod32, g68E n (p / 32) (p % 32) a (by omega) (Nat.mod_lt _ (by decide)) ha, show 32 * (p / 32) + p % 32 = p by omega]
end Go.Proofs.Ytobejeiffgehfaa.Sx
