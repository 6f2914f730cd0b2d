/- Plain laws: what is asked of terms, over whole numbers alone. Our own work. -/
import Derived.Test.YtlmmgjngihlpeaaZedC
namespace Go.Proofs.Ytlmmgjngihlpeaa.Sx
open Go
set_option linter.unusedVariables false
set_option linter.unusedSimpArgs false
set_option maxRecDepth 100000
def kd (x : List Int) : Int := x.headD 0
def xa (x : List Int) : Nat := (x.tail.headD 0).toNat
def xb (x : List Int) : Nat := (x.tail.tail.headD 0).toNat
def xp (x : List Int) : Int := x.tail.tail.tail.headD 0
def xq (x : List Int) : Int := x.tail.tail.tail.tail.headD 0
abbrev MS := List (Nat × Nat × Int) × List (Nat × Nat)
abbrev MR (β : Type) := MS → Except Int (β × MS)
section
variable {β γ : Type}
def mpure (x : β) : MR β := fun s => .ok (x, s)
def merr (c : Int) : MR β := fun _ => .error c
def mbind (f : MR β) (g : β → MR γ) : MR γ := fun s => match f s with
 | .ok (x, s') => g x s'
 | .error c => .error c
end
def fitM (z : Int) : MR Int := cond (fitZ z) (mpure z) (merr 3)
def upM (z : Int) (n : Nat) : MR Int := if n ≤ 191 then fitM (z * 2 ^ n) else merr 3
def nearM (z : Int) (n : Nat) : MR Int := if n ≤ 191 then mpure (nearZ z n) else merr 3
def lenZ (z : Int) : Nat := if z = 0 then 0 else Nat.log2 z.natAbs + 1
def growM (A : Nat → Nat → MR Int) (i : Nat) : MR Nat := mbind (A i 0) fun a => mpure (lenZ a)
def awayM (A : Nat → Nat → MR Int) (i : Nat) : Nat → Nat → MR Nat
 | 0, _ => merr 7
 | d + 1, k => mbind (A i (k + 2)) fun a => if 5 ≤ a.natAbs then mpure k else awayM A i d (k + 1)
def arcN (d : Nat) : Nat → Nat → Nat → Int
 | 0, _, _ => 0
 | f + 1, i, p => if p = 0 then 0 else (if i % 2 = 1 then -((p / (2 * i + 1) : Nat) : Int) else ((p / (2 * i + 1) : Nat) : Int)) + arcN d f (i + 1) (p / (d * d))
def arcZ (d n : Nat) : Int := arcN d 200 0 (2 ^ (n + 16) / d)
def piZ (n : Nat) : Int := nearZ (16 * arcZ 5 n - 4 * arcZ 239 n) 16
def eulN : Nat → Nat → Nat → Nat
 | 0, _, _ => 0
 | f + 1, i, p => if p = 0 then 0 else p + eulN f (i + 1) (p / i)
def eulZ (n : Nat) : Int := nearZ (eulN 200 1 (2 ^ (n + 16)) : Int) 16
def ruleM (A : Nat → Nat → MR Int) (x : List Int) (n : Nat) : MR Int :=
 if kd x = 1 then mbind (upM (xp x) n) fun z => mpure (dnZ z (xq x))
 else if kd x = 2 then mbind (A (xa x) (n + 2)) fun a => mbind (A (xb x) (n + 2)) fun b => mbind (fitM (a + b)) fun z => mpure (nearZ z 2)
 else if kd x = 3 then mbind (A (xa x) (n + 2)) fun a => mbind (A (xb x) (n + 2)) fun b => mbind (fitM (a - b)) fun z => mpure (nearZ z 2)
 else if kd x = 4 then mbind (growM A (xa x)) fun ga => mbind (growM A (xb x)) fun gb => mbind (A (xa x) (n + gb + 3)) fun p => mbind (A (xb x) (n + ga + 3)) fun q =>
  mbind (fitM (p * q)) fun z => nearM z (n + ga + gb + 6)
 else if kd x = 5 then mbind (awayM A (xb x) 41 0) fun k => mbind (growM A (xa x)) fun ga => mbind (A (xa x) (n + k + 3)) fun p => mbind (A (xb x) (n + ga + 2 * k + 4)) fun q =>
  mbind (upM p (n + ga + k + 1)) fun z => mpure (dnZ z q)
 else if kd x = 6 then mbind (A (xa x) n) fun a => mpure (-a)
 else if kd x = 7 then mbind (A (xa x) n) fun a => mpure (a.natAbs : Int)
 else if kd x = 8 then mbind (A (xa x) n) fun a => mbind (A (xb x) n) fun b => mpure (min a b)
 else if kd x = 9 then mbind (A (xa x) n) fun a => mbind (A (xb x) n) fun b => mpure (max a b)
 else if kd x = 10 then mbind (A (xa x) (2 * n + 6)) fun a => mpure (if a < 0 then 0 else nearZ (isq a.natAbs : Int) 3)
 else if kd x = 11 then mpure (piZ n)
 else mpure (eulZ n)
def lookM : List (Nat × Nat × Int) → Nat → Nat → Option Int
 | [], _, _ => none
 | e :: r, i, n => if e.1 = i ∧ e.2.1 = n then some e.2.2 else lookM r i n
def askM (X : Nat → List Int) : Nat → Nat → Nat → MR Int
 | 0, _, _ => merr 3
 | f + 1, i, n => fun s => match lookM s.1 i n with
  | some z => .ok (z, s)
  | none => if 160 < n then .error 3 else match ruleM (askM X f) (X i) n (s.1, s.2 ++ [(i, n)]) with
   | .ok (z, s') => .ok (z, (s'.1 ++ [(i, n, z)], s'.2))
   | .error c => .error c
def sqrtQ (r : Rat) : Rat := if r < 0 then 0 else (isq (r * 2 ^ 800).floor.toNat : Rat) / 2 ^ 400
def piQ : Rat := (piZ 400 : Rat) / 2 ^ 400
def eulQ : Rat := (eulZ 400 : Rat) / 2 ^ 400
def absQ (x : Rat) : Rat := if x < 0 then -x else x
def valR (v : Nat → Rat) (x : List Int) : Rat :=
 if kd x = 1 then (xp x : Rat) / (xq x : Rat)
 else if kd x = 2 then v (xa x) + v (xb x)
 else if kd x = 3 then v (xa x) - v (xb x)
 else if kd x = 4 then v (xa x) * v (xb x)
 else if kd x = 5 then v (xa x) / v (xb x)
 else if kd x = 6 then -v (xa x)
 else if kd x = 7 then absQ (v (xa x))
 else if kd x = 8 then (if v (xa x) ≤ v (xb x) then v (xa x) else v (xb x))
 else if kd x = 9 then (if v (xa x) ≤ v (xb x) then v (xb x) else v (xa x))
 else if kd x = 10 then sqrtQ (v (xa x))
 else if kd x = 11 then piQ
 else eulQ
def valF (X : Nat → List Int) : Nat → Nat → Rat
 | 0, _ => 0
 | f + 1, i => valR (valF X f) (X i)
def Near1 (r : Rat) (n : Nat) (z : Int) : Prop := (z : Rat) - r * 2 ^ n ≤ 1 ∧ r * 2 ^ n - (z : Rat) ≤ 1
theorem pow2Q_pos (n : Nat) : (0 : Rat) < 2 ^ n := Rat.pow_pos (by decide)
theorem pow2Q_ge1 (n : Nat) : (1 : Rat) ≤ 2 ^ n := by
 induction n with
 | zero => simp
 | succ n ih => rw [Rat.pow_succ]; grind
theorem pow2Q_add (m n : Nat) : (2 : Rat) ^ (m + n) = 2 ^ m * 2 ^ n := by
 induction n with
 | zero => simp
 | succ n ih => rw [← Nat.add_assoc, Rat.pow_succ, ih, Rat.pow_succ]; grind
theorem pow2Q_cast (n : Nat) : (((2 : Int) ^ n : Int) : Rat) = 2 ^ n := by
 induction n with
 | zero => rfl
 | succ n ih => rw [Int.pow_succ, Rat.intCast_mul, ih, Rat.pow_succ]; rfl
theorem nearZ_spec (x : Int) {p : Nat} (hp : 0 < p) : 2 * (nearZ x p * 2 ^ p) - 2 * x ≤ 2 ^ p ∧ 2 * x - 2 * (nearZ x p * 2 ^ p) ≤ 2 ^ p := by
 unfold nearZ
 rw [decide_eq_false (by omega), cond_false]
 have h2 : (2 : Int) ^ p = 2 * 2 ^ (p - 1) := by rw [← Int.pow_succ']; congr 1; omega
 have h0 : (0 : Int) < 2 ^ (p - 1) := Int.pow_pos (by decide)
 have e1 := Int.mul_ediv_add_emod (x + 2 ^ (p - 1)) (2 ^ p)
 have e2 := Int.emod_nonneg (x + 2 ^ (p - 1)) (show (2 : Int) ^ p ≠ 0 by omega)
 have e3 := Int.emod_lt_of_pos (x + 2 ^ (p - 1)) (show (0 : Int) < 2 ^ p by omega)
 have e4 : (2 : Int) ^ p * ((x + 2 ^ (p - 1)) / 2 ^ p) = ((x + 2 ^ (p - 1)) / 2 ^ p) * 2 ^ p := Int.mul_comm _ _
 omega
theorem nearZ_Q (x : Int) {p : Nat} (hp : 0 < p) : 2 * ((nearZ x p : Rat) * 2 ^ p) - 2 * (x : Rat) ≤ 2 ^ p ∧ 2 * (x : Rat) - 2 * ((nearZ x p : Rat) * 2 ^ p) ≤ 2 ^ p := by
 obtain ⟨h1, h2⟩ := nearZ_spec x hp
 have g1 := Rat.intCast_le_intCast.2 h1
 have g2 := Rat.intCast_le_intCast.2 h2
 simp only [Rat.intCast_sub, Rat.intCast_mul, pow2Q_cast] at g1 g2
 exact ⟨g1, g2⟩
theorem dnZ_spec (x : Int) {y : Int} (hy : y ≠ 0) : (2 * (dnZ x y * y - x)).natAbs ≤ y.natAbs := by
 have e := Int.mul_fdiv_add_fmod x y
 have hb : (0 < y → 0 ≤ x.fmod y ∧ x.fmod y < y) ∧ (y < 0 → y < x.fmod y ∧ x.fmod y ≤ 0) :=
  ⟨fun h => ⟨Int.fmod_nonneg_of_pos _ h, Int.fmod_lt_of_pos _ h⟩, fun h => by
   have h1 := Int.neg_fmod_neg (-x) (-y)
   simp only [Int.neg_neg] at h1
   have h2 := Int.fmod_nonneg_of_pos (-x) (show 0 < -y by omega)
   have h3 := Int.fmod_lt_of_pos (-x) (show 0 < -y by omega)
   have h4 : x.fmod y = -((-x).fmod (-y)) := by
    rw [← h1]
   omega⟩
 have e2 : y * x.fdiv y = x.fdiv y * y := Int.mul_comm _ _
 unfold dnZ
 by_cases h : y.natAbs ≤ 2 * (x.fmod y).natAbs
 ·rw [decide_eq_true h, cond_true]
  have e3 : (x.fdiv y + 1) * y = x.fdiv y * y + y := by rw [Int.add_mul]; omega
  omega
 ·rw [decide_eq_false h, cond_false]
  omega
end Go.Proofs.Ytlmmgjngihlpeaa.Sx
