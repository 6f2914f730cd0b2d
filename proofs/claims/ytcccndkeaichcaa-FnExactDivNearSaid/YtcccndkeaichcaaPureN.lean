/- Plain laws: int64 values of wide integers. Our own work. -/
import Derived.Test.YtcccndkeaichcaaPureK
namespace Go.Proofs.Ytcccndkeaichcaa.Sx
open Go
set_option linter.unusedVariables false
set_option linter.unusedSimpArgs false
set_option maxRecDepth 100000
theorem isLen_gt {a b c : Nat} (h : isLen a b = true) : c < b ↔ 2 ^ c ≤ a := by
  rw [isLen_iff] at h
  constructor
  · intro hc
    rcases h.2 with h2 | h2
    · omega
    · exact Nat.le_trans (Nat.pow_le_pow_right (by decide) (by omega)) h2
  · intro hc
    by_cases hb : b ≤ c
    · have := Nat.pow_le_pow_right (n := 2) (by decide) hb
      omega
    · omega
theorem low_or {x0 x1 : Nat} (h0 : x0 < 4294967296) (h1 : x1 < 4294967296) : ibits .or .u64 (IntKind.wrap .u64 ((IntKind.wrap .u64 (x1 : Int)) * 2 ^ 32)) (IntKind.wrap .u64 (x0 : Int)) = ((x0 + 4294967296 * x1 : Nat) : Int) := by
  rw [wrapU64N, wrapU64N, Nat.mod_eq_of_lt (show x1 < 18446744073709551616 by omega), Nat.mod_eq_of_lt (show x0 < 18446744073709551616 by omega), show (2 ^ 32 : Int) = ((2 ^ 32 : Nat) : Int) from rfl, ← Int.natCast_mul, wrapU64N,
    Nat.mod_eq_of_lt (by omega), or64 (by omega) (by omega), or_is_add x1 x0 32 h0]
  congr 1; omega
theorem low_add {x0 x1 : Nat} (h0 : x0 < 4294967296) (h1 : x1 < 4294967296) : IntKind.wrap .u64 ((IntKind.wrap .u64 ((IntKind.wrap .u64 (x1 : Int)) * 2 ^ 32)) + (IntKind.wrap .u64 (x0 : Int))) = ((x0 + 4294967296 * x1 : Nat) : Int) := by
  rw [wrapU64N, wrapU64N, Nat.mod_eq_of_lt (show x1 < 18446744073709551616 by omega), Nat.mod_eq_of_lt (show x0 < 18446744073709551616 by omega), show (2 ^ 32 : Int) = ((2 ^ 32 : Nat) : Int) from rfl, ← Int.natCast_mul, wrapU64N,
    Nat.mod_eq_of_lt (by omega), ← Int.natCast_add, wrapU64N, Nat.mod_eq_of_lt (by omega)]
  congr 1; omega
theorem nz {β : Type} (x : Nat) (A Z : β) : cond (((x : Nat) : Int) != 0) A Z = if x = 0 then Z else A := chkStep x A Z
theorem g95L {α : Type} (n : Nat) (q : Bool) {a : Nat} (ha : a < W192) (k : Int → Bool → Option α) : g95 (n + 7) q (limbs 6 a) k = cond (decide (18446744073709551616 ≤ a)) (k 0 false)
    (cond q (k (IntKind.wrap .i64 (IntKind.wrap .u64 (0 - (a : Int)))) (decide ((a : Int) ≤ 9223372036854775808))) (k (IntKind.wrap .i64 (a : Int)) (decide ((a : Int) < 9223372036854775808)))) := by
  obtain ⟨x0, x1, x2, x3, x4, x5, p0, p1, p2, p3, p4, p5, e, e'⟩ := six_split a ha
  rw [e]
  have h : g95 (n + 7) q [(x0 : Int), x1, x2, x3, x4, x5] k = cond ((x2 : Int) != 0) (k 0 false) (cond ((x3 : Int) != 0) (k 0 false) (cond ((x4 : Int) != 0) (k 0 false) (cond ((x5 : Int) != 0) (k 0 false)
      (cond q (k (IntKind.wrap .i64 (IntKind.wrap .u64 (0 - IntKind.wrap .u64 ((IntKind.wrap .u64 ((IntKind.wrap .u64 (x1 : Int)) * 2 ^ 32)) + (IntKind.wrap .u64 (x0 : Int)))))) (decide (IntKind.wrap .u64 ((IntKind.wrap .u64 ((IntKind.wrap .u64 (x1 : Int)) * 2 ^ 32)) + (IntKind.wrap .u64 (x0 : Int))) ≤ 9223372036854775808)))
        (k (IntKind.wrap .i64 (IntKind.wrap .u64 ((IntKind.wrap .u64 ((IntKind.wrap .u64 (x1 : Int)) * 2 ^ 32)) + (IntKind.wrap .u64 (x0 : Int))))) (decide (IntKind.wrap .u64 ((IntKind.wrap .u64 ((IntKind.wrap .u64 (x1 : Int)) * 2 ^ 32)) + (IntKind.wrap .u64 (x0 : Int))) < 9223372036854775808))))))) := by kernel_rfl
  rw [h, low_add p0 p1]
  simp only [nz]
  by_cases h2 : x2 = 0
  · by_cases h3 : x3 = 0
    · by_cases h4 : x4 = 0
      · by_cases h5 : x5 = 0
        · rw [if_pos h2, if_pos h3, if_pos h4, if_pos h5, show x0 + 4294967296 * x1 = a by omega]
          simp only [eq_false (show ¬ 18446744073709551616 ≤ a by omega), decide_false, cond_false]
        · rw [if_pos h2, if_pos h3, if_pos h4, if_neg h5]
          simp only [eq_true (show 18446744073709551616 ≤ a by omega), decide_true, cond_true]
      · rw [if_pos h2, if_pos h3, if_neg h4]
        simp only [eq_true (show 18446744073709551616 ≤ a by omega), decide_true, cond_true]
    · rw [if_pos h2, if_neg h3]
      simp only [eq_true (show 18446744073709551616 ≤ a by omega), decide_true, cond_true]
  · rw [if_neg h2]
    simp only [eq_true (show 18446744073709551616 ≤ a by omega), decide_true, cond_true]
theorem g96L {α : Type} (n : Nat) (q : Bool) {a : Nat} (ha : a < W192) (k : Int → Bool → Option α) : g96 (n + 7) q (limbs 6 a) k = cond (decide (18446744073709551616 ≤ a)) (k 0 false)
    (cond (decide ((a : Int) > 9223372036854775808)) (k 0 false) (cond ((a : Int) == 9223372036854775808) (cond (!q) (k 0 false) (cond q (k (IntKind.wrap .i64 (IntKind.wrap .u64 (0 - (a : Int)))) true) (k (IntKind.wrap .i64 (a : Int)) true)))
      (cond q (k (IntKind.wrap .i64 (IntKind.wrap .u64 (0 - (a : Int)))) true) (k (IntKind.wrap .i64 (a : Int)) true)))) := by
  obtain ⟨b, hb⟩ := len_of a
  obtain ⟨x0, x1, x2, x3, x4, x5, p0, p1, p2, p3, p4, p5, e, e'⟩ := six_split a ha
  simp only [g96, g96b, g94L n ha hb]
  have g1 : List.getD (limbs 6 a) 1 0 = (x1 : Int) := by rw [e]; rfl
  have g0 : List.getD (limbs 6 a) 0 0 = (x0 : Int) := by rw [e]; rfl
  rw [g1, g0, low_or p0 p1]
  have hgt := isLen_gt (c := 64) hb
  rw [show (2 : Nat) ^ 64 = 18446744073709551616 from rfl] at hgt
  have hsum : x0 + 4294967296 * x1 = a ∨ 18446744073709551616 ≤ a := by omega
  by_cases hbig : 18446744073709551616 ≤ a
  · have h64 : 64 < b := hgt.2 hbig
    simp only [eq_true (show (b : Int) > 64 by omega), eq_true hbig, decide_true, cond_true]
  · have h64 : ¬ 64 < b := fun h => hbig (hgt.1 h)
    have hs : x0 + 4294967296 * x1 = a := hsum.resolve_right hbig
    rw [hs]
    simp only [eq_false (show ¬ (b : Int) > 64 by omega), eq_false hbig, decide_false, cond_false]
def narV (q : Bool) (a : Nat) : Int := cond q (IntKind.wrap .i64 (IntKind.wrap .u64 (0 - (a : Int)))) (IntKind.wrap .i64 (a : Int))
theorem cond2 {A B C : Type} (q : Bool) (f : A → B → C) (x y : A) (u v : B) : cond q (f x u) (f y v) = f (cond q x y) (cond q u v) := by cases q <;> rfl
theorem cond1 {A C : Type} (q : Bool) (f : A → C) (x y : A) : cond q (f x) (f y) = f (cond q x y) := by cases q <;> rfl
theorem condSame {A : Type} (q : Bool) (x : A) : cond q x x = x := by cases q <;> rfl
def M63 (a : Int) : Bool := decide (a ≤ 9223372036854775808)
def N63 (a : Int) : Bool := decide (a < 9223372036854775808)
theorem m63 (a : Int) : M63 a = true ↔ a ≤ 9223372036854775808 := decide_eq_true_iff
theorem n63 (a : Int) : N63 a = true ↔ a < 9223372036854775808 := decide_eq_true_iff
def narOk (q : Bool) (a : Nat) : Bool := cond q (M63 a) (N63 a)
theorem narOk_t (a : Nat) : narOk true a = M63 a := by unfold narOk; rw [cond_true]
theorem narOk_f (a : Nat) : narOk false a = N63 a := by unfold narOk; rw [cond_false]
theorem le_split (x : Int) : x ≤ 9223372036854775808 ↔ (x < 9223372036854775808 ∨ (true = true ∧ x = 9223372036854775808)) := by
  constructor
  · intro h
    by_cases h2 : x = 9223372036854775808
    · exact .inr ⟨rfl, h2⟩
    · exact .inl (by omega)
  · rintro (h | ⟨_, h⟩) <;> omega
theorem lt_split (x : Int) : x < 9223372036854775808 ↔ (x < 9223372036854775808 ∨ (false = true ∧ x = 9223372036854775808)) := by
  constructor
  · intro h; exact .inl h
  · rintro (h | ⟨h, _⟩)
    · exact h
    · cases h
theorem narOk_iff (q : Bool) (a : Nat) : narOk q a = true ↔ ((a : Int) < 9223372036854775808 ∨ (q = true ∧ (a : Int) = 9223372036854775808)) := by
  cases q with
  | true => rw [narOk_t, m63]; exact le_split _
  | false => rw [narOk_f, n63]; exact lt_split _
theorem g95X (n : Nat) (q : Bool) {a : Nat} (ha : a < W192) : ∃ x, (∀ {α : Type} (k : Int → Bool → Option α), g95 (n + 7) q (limbs 6 a) k = k x (narOk q a)) ∧ (narOk q a = true → x = narV q a) := by
  by_cases h1 : 18446744073709551616 ≤ a
  · have h0 : narOk q a = false := by
      have h := narOk_iff q a
      cases hb : narOk q a with
      | false => rfl
      | true => have := h.1 hb; omega
    refine ⟨0, fun k => ?_, fun h => by rw [h0] at h; cases h⟩
    rw [g95L n q ha, h0]
    simp only [eq_true h1, decide_true, cond_true]
  · refine ⟨narV q a, fun k => ?_, fun _ => rfl⟩
    rw [g95L n q ha]
    simp only [eq_false h1, decide_false, cond_false]
    show cond q (k _ (M63 (a : Int))) (k _ (N63 (a : Int))) = _
    rw [cond2 q k]
    unfold narOk narV
    exact rfl
theorem g96X (n : Nat) (q : Bool) {a : Nat} (ha : a < W192) : ∃ x, (∀ {α : Type} (k : Int → Bool → Option α), g96 (n + 7) q (limbs 6 a) k = k x (narOk q a)) ∧ (narOk q a = true → x = narV q a) := by
  by_cases h0 : narOk q a = true
  · refine ⟨narV q a, fun k => ?_, fun _ => rfl⟩
    rw [g96L n q ha, h0]
    have h5 := (narOk_iff q a).1 h0
    have h1 : ¬ 18446744073709551616 ≤ a := by omega
    have h2 : ¬ (a : Int) > 9223372036854775808 := by omega
    simp only [eq_false h1, eq_false h2, decide_false, cond_false]
    rw [cond1 q (fun x => k x true)]
    rcases h5 with h5 | ⟨rfl, h5⟩
    · have h3 : ((a : Int) == 9223372036854775808) = false := beq_false_of_ne (by omega)
      simp only [h3, cond_false]; rfl
    · simp only [Bool.not_true, cond_false, condSame]; rfl
  · have h0' : narOk q a = false := by simpa using h0
    refine ⟨0, fun k => ?_, fun h => absurd h h0⟩
    rw [g96L n q ha, h0']
    have h5 : ¬ ((a : Int) < 9223372036854775808 ∨ (q = true ∧ (a : Int) = 9223372036854775808)) := fun h => h0 ((narOk_iff q a).2 h)
    by_cases h1 : 18446744073709551616 ≤ a
    · simp only [eq_true h1, decide_true, cond_true]
    · simp only [eq_false h1, decide_false, cond_false]
      by_cases h2 : (a : Int) > 9223372036854775808
      · simp only [eq_true h2, decide_true, cond_true]
      · simp only [eq_false h2, decide_false, cond_false]
        have h6 : (a : Int) = 9223372036854775808 := by omega
        have hq : q = false := by
          cases q with
          | false => rfl
          | true => exact absurd (.inr ⟨rfl, h6⟩) h5
        have h3 : ((a : Int) == 9223372036854775808) = true := beq_iff_eq.2 h6
        rw [hq]
        simp only [h3, cond_true, Bool.not_false]
theorem law10 (q : Bool) {a : Nat} (ha : a < W192) {α : Type} (k : Bool → Option α) : g10 7 q (limbs 6 a) k = k true := by
  obtain ⟨x, h1, h2⟩ := g95X 0 q ha
  obtain ⟨y, h3, h4⟩ := g96X 0 q ha
  simp only [g10, g10b, g23L 0, g53, g53b, g54, g54b, g64L 7 _ ha, g24L 7 _ ha, h1, h3]
  generalize narOk q a = b at *
  generalize (!(q && decide (a = 0))) = e
  cases e
  · rfl
  · cases b
    · rfl
    · rw [h2 rfl, h4 rfl]
      simp only [cond_true, cond_false, Bool.not_true, bne_self_eq_false]
theorem law10' (ls : List Lf) (hw : WT g10tp ls) : g10K (g10 7) ls (fun v _ _ => saysTrue v) = some () := by
  obtain ⟨a, ha, e1⟩ := limbs_ex hw.1.2.1.1 hw.1.2.1.2
  have := law10 (lf ls 0).bool ha (fun b => saysTrue (.vl (.sv (.bool b))))
  rw [← e1] at this
  exact this
end Go.Proofs.Ytcccndkeaichcaa.Sx
