/- Plain laws: RootWide. Our own work. -/
import Derived.Test.YtobejeiffgehfaaPureR
namespace Go.Proofs.Ytobejeiffgehfaa.Sx
open Go
set_option linter.unusedVariables false
set_option linter.unusedSimpArgs false
set_option maxRecDepth 100000
theorem g60L {α : Type} (n : Nat) {a b : Nat} (ha : a < W192) (hb : b < W192) (hs : a + b < W192) (k : Bool → List Int → Int → Option α) :
    g60 (n + 7) false (limbs 6 a) false (limbs 6 b) k = k false (limbs 6 (a + b)) 0 := by
  simp only [g60, g60b, g89L n ha hb, beq_self_eq_true, cond_true, eq_true hs, decide_true, Bool.not_true, cond_false, g88L (n + 7) false hs, Bool.false_and]
theorem g63L {α : Type} (n : Nat) {a b : Nat} (ha : a < W192) (hb : b < W192) (k : Int → Option α) : g63 (n + 7) false (limbs 6 a) false (limbs 6 b) k = k (cmpN a b) := by
  have h : g63 (n + 7) false (limbs 6 a) false (limbs 6 b) k = g90 (n + 7) (limbs 6 a) (limbs 6 b) (fun x => k x) := by kernel_rfl
  rw [h, g90L n ha hb]
def rootStep (a i R : Nat) : Nat := cond (decide ((R + 2 ^ i) * (R + 2 ^ i) ≤ a)) (R + 2 ^ i) R
theorem sq_lt {x a : Nat} (h : x * x ≤ a) (ha : a < W192) : x * x < W192 := Nat.lt_of_le_of_lt h ha
def rootN (a : Nat) : Nat → Nat → Nat
  | 0, R => rootStep a 0 R
  | i + 1, R => rootN a i (rootStep a (i + 1) R)
theorem rootStep_le (a i R : Nat) : rootStep a i R ≤ R + 2 ^ i := by
  unfold rootStep
  cases decide ((R + 2 ^ i) * (R + 2 ^ i) ≤ a)
  · exact Nat.le_add_right _ _
  · exact Nat.le_refl _
theorem pow98 : (2 : Nat) ^ 98 < W192 := by decide
theorem root_in {i R : Nat} (h : R + 2 ^ (i + 1) ≤ 2 ^ 98) : R + 2 ^ i < W192 := by
  have := pow98
  rw [Nat.pow_succ] at h
  omega
theorem root_next {a i R : Nat} (h : R + 2 ^ (i + 2) ≤ 2 ^ 98) : rootStep a (i + 1) R + 2 ^ (i + 1) ≤ 2 ^ 98 := by
  have h1 := rootStep_le a (i + 1) R
  have h2 : 2 ^ (i + 2) = 2 ^ (i + 1) * 2 := Nat.pow_succ ..
  omega
theorem half_start {b : Nat} (hb : b ≤ 192) : IntKind.wrap .i64 (Int.tdiv (IntKind.wrap .i64 ((b : Int) + 1)) 2) = (((b + 1) / 2 : Nat) : Int) := by
  rw [wrapI64 (x := (b : Int) + 1) (by omega) (by omega), show (b : Int) + 1 = ((b + 1 : Nat) : Int) by omega, show (2 : Int) = ((2 : Nat) : Int) from rfl, ← Int.ofNat_tdiv, wrapI64 (by omega) (by omega)]
theorem start_ok {b : Nat} (hb : b ≤ 192) : 0 + 2 ^ ((b + 1) / 2 + 1) ≤ 2 ^ 98 := by
  rw [Nat.zero_add]; exact Nat.pow_le_pow_right (by decide) (by omega)
end Go.Proofs.Ytobejeiffgehfaa.Sx
