/- Plain laws: int64 values of wide integers. Our own work. -/
import Derived.Test.YtobejeiffgehfaaPureK
namespace Go.Proofs.Ytobejeiffgehfaa.Sx
open Go
set_option linter.unusedVariables false
set_option linter.unusedSimpArgs false
set_option maxRecDepth 100000
theorem isLen_gt {a b c : Nat} (h : isLen a b = true) : c < b ↔ 2 ^ c ≤ a := by
  rw [isLen_iff] at h
  constructor
  · intro hc
    rcases h.2 with h2 | h2
    · omega
    · exact Nat.le_trans (Nat.pow_le_pow_right (by decide) (by omega)) h2
  · intro hc
    by_cases hb : b ≤ c
    · have := Nat.pow_le_pow_right (n := 2) (by decide) hb
      omega
    · omega
theorem low_or {x0 x1 : Nat} (h0 : x0 < 4294967296) (h1 : x1 < 4294967296) : ibits .or .u64 (IntKind.wrap .u64 ((IntKind.wrap .u64 (x1 : Int)) * 2 ^ 32)) (IntKind.wrap .u64 (x0 : Int)) = ((x0 + 4294967296 * x1 : Nat) : Int) := by
  rw [wrapU64N, wrapU64N, Nat.mod_eq_of_lt (show x1 < 18446744073709551616 by omega), Nat.mod_eq_of_lt (show x0 < 18446744073709551616 by omega), show (2 ^ 32 : Int) = ((2 ^ 32 : Nat) : Int) from rfl, ← Int.natCast_mul, wrapU64N,
    Nat.mod_eq_of_lt (by omega), or64 (by omega) (by omega), or_is_add x1 x0 32 h0]
  congr 1; omega
theorem low_add {x0 x1 : Nat} (h0 : x0 < 4294967296) (h1 : x1 < 4294967296) : IntKind.wrap .u64 ((IntKind.wrap .u64 ((IntKind.wrap .u64 (x1 : Int)) * 2 ^ 32)) + (IntKind.wrap .u64 (x0 : Int))) = ((x0 + 4294967296 * x1 : Nat) : Int) := by
  rw [wrapU64N, wrapU64N, Nat.mod_eq_of_lt (show x1 < 18446744073709551616 by omega), Nat.mod_eq_of_lt (show x0 < 18446744073709551616 by omega), show (2 ^ 32 : Int) = ((2 ^ 32 : Nat) : Int) from rfl, ← Int.natCast_mul, wrapU64N,
    Nat.mod_eq_of_lt (by omega), ← Int.natCast_add, wrapU64N, Nat.mod_eq_of_lt (by omega)]
  congr 1; omega
theorem nz {β : Type} (x : Nat) (A Z : β) : cond (((x : Nat) : Int) != 0) A Z = if x = 0 then Z else A := chkStep x A Z
def narV (q : Bool) (a : Nat) : Int := cond q (IntKind.wrap .i64 (IntKind.wrap .u64 (0 - (a : Int)))) (IntKind.wrap .i64 (a : Int))
theorem cond2 {A B C : Type} (q : Bool) (f : A → B → C) (x y : A) (u v : B) : cond q (f x u) (f y v) = f (cond q x y) (cond q u v) := by cases q <;> rfl
theorem cond1 {A C : Type} (q : Bool) (f : A → C) (x y : A) : cond q (f x) (f y) = f (cond q x y) := by cases q <;> rfl
theorem condSame {A : Type} (q : Bool) (x : A) : cond q x x = x := by cases q <;> rfl
def M63 (a : Int) : Bool := decide (a ≤ 9223372036854775808)
def N63 (a : Int) : Bool := decide (a < 9223372036854775808)
theorem m63 (a : Int) : M63 a = true ↔ a ≤ 9223372036854775808 := decide_eq_true_iff
theorem n63 (a : Int) : N63 a = true ↔ a < 9223372036854775808 := decide_eq_true_iff
def narOk (q : Bool) (a : Nat) : Bool := cond q (M63 a) (N63 a)
theorem narOk_t (a : Nat) : narOk true a = M63 a := by unfold narOk; rw [cond_true]
theorem narOk_f (a : Nat) : narOk false a = N63 a := by unfold narOk; rw [cond_false]
theorem le_split (x : Int) : x ≤ 9223372036854775808 ↔ (x < 9223372036854775808 ∨ (true = true ∧ x = 9223372036854775808)) := by
  constructor
  · intro h
    by_cases h2 : x = 9223372036854775808
    · exact .inr ⟨rfl, h2⟩
    · exact .inl (by omega)
  · rintro (h | ⟨_, h⟩) <;> omega
theorem lt_split (x : Int) : x < 9223372036854775808 ↔ (x < 9223372036854775808 ∨ (false = true ∧ x = 9223372036854775808)) := by
  constructor
  · intro h; exact .inl h
  · rintro (h | ⟨h, _⟩)
    · exact h
    · cases h
theorem narOk_iff (q : Bool) (a : Nat) : narOk q a = true ↔ ((a : Int) < 9223372036854775808 ∨ (q = true ∧ (a : Int) = 9223372036854775808)) := by
  cases q with
  | true => rw [narOk_t, m63]; exact le_split _
  | false => rw [narOk_f, n63]; exact lt_split _
end Go.Proofs.Ytobejeiffgehfaa.Sx
