/- Plain laws: roots, pi and e come near. Our own work. -/
import Derived.Test.YtlmmgjngihlpeaaAskN
namespace Go.Proofs.Ytlmmgjngihlpeaa.Sx
open Go
set_option linter.unusedVariables false
set_option linter.unusedSimpArgs false
set_option maxRecDepth 100000
def tabOk1 (F : Nat → Int) : Bool := (List.range 161).all fun n => decide ((F n * 2 ^ (400 - n) - F 400).natAbs ≤ 2 ^ (400 - n))
theorem near_tab {F : Nat → Int} (h : tabOk1 F = true) {n : Nat} (hn : n ≤ 160) : Near1 ((F 400 : Rat) / 2 ^ 400) n (F n) := by
 have h1 := (List.all_eq_true.1 h) n (List.mem_range.2 (by omega))
 simp only [decide_eq_true_eq] at h1
 have c : ((2 ^ (400 - n) : Nat) : Int) = 2 ^ (400 - n) := by norm_cast
 have h2 : F n * 2 ^ (400 - n) - F 400 ≤ 2 ^ (400 - n) := by omega
 have h3 : F 400 - F n * 2 ^ (400 - n) ≤ 2 ^ (400 - n) := by omega
 have g1 := Rat.intCast_le_intCast.2 h2
 have g2 := Rat.intCast_le_intCast.2 h3
 simp only [Rat.intCast_sub, Rat.intCast_mul, pow2Q_cast] at g1 g2
 have e : (2 : Rat) ^ 400 = 2 ^ (400 - n) * 2 ^ n := by rw [← pow2Q_add]; congr 1; omega
 unfold Near1
 rw [e]
 have hp := pow2Q_pos (400 - n)
 have hq := pow2Q_pos n
 generalize (2 : Rat) ^ (400 - n) = P at *
 generalize (2 : Rat) ^ n = Q at *
 have e1 : (F 400 : Rat) / (P * Q) * Q * P = (F 400 : Rat) := by grind
 constructor
 ·rw [← mul_le_iff hp]; grind
 ·rw [← mul_le_iff hp]; grind
theorem pi_tab : tabOk1 piZ = true := by decide +kernel
theorem eul_tab : tabOk1 eulZ = true := by decide +kernel
theorem near_pi {n : Nat} (hn : n ≤ 160) : Near1 piQ n (piZ n) := near_tab pi_tab hn
theorem near_eul {n : Nat} (hn : n ≤ 160) : Near1 eulQ n (eulZ n) := near_tab eul_tab hn
theorem sqQ_lt {a b : Rat} (ha : 0 ≤ a) (hb : 0 ≤ b) (h : a * a < b * b) : a < b := by
 by_cases hc : a < b
 ·exact hc
 ·have := Rat.mul_nonneg (show 0 ≤ a - b by grind) (show 0 ≤ a + b by grind)
  grind
theorem sqrtQ_spec {x : Rat} (hx : 0 ≤ x) : 0 ≤ sqrtQ x ∧ sqrtQ x * sqrtQ x ≤ x ∧ x < (sqrtQ x + 1 / 2 ^ 400) * (sqrtQ x + 1 / 2 ^ 400) := by
 unfold sqrtQ
 rw [if_neg (by grind)]
 have hp := pow2Q_pos 400
 have e800 : (2 : Rat) ^ 800 = 2 ^ 400 * 2 ^ 400 := pow2Q_add 400 400
 have hxp : 0 ≤ x * 2 ^ 800 := Rat.mul_nonneg hx (by rw [e800]; exact Rat.mul_nonneg (by grind) (by grind))
 have f1 := Rat.floor_le (x * 2 ^ 800)
 have f2 := Rat.lt_floor_add_one (x * 2 ^ 800)
 have f0 : 0 ≤ (x * 2 ^ 800).floor := Rat.le_floor_iff.2 (by simpa using hxp)
 obtain ⟨m, hm⟩ : ∃ m : Nat, (x * 2 ^ 800).floor = ((m : Nat) : Int) := ⟨(x * 2 ^ 800).floor.toNat, by omega⟩
 rw [hm] at f1 f2 ⊢
 rw [Int.toNat_natCast]
 obtain ⟨s1, s2⟩ := isq_spec m
 generalize isq m = s at *
 have g1 : ((s : Int) : Rat) * ((s : Int) : Rat) ≤ ((m : Int) : Rat) := by
  rw [← Rat.intCast_mul]; exact_mod_cast s1
 have g2 : (((m : Int) + 1 : Int) : Rat) ≤ (((s : Int) + 1 : Int) : Rat) * (((s : Int) + 1 : Int) : Rat) := by
  rw [← Rat.intCast_mul]
  apply Rat.intCast_le_intCast.2
  have : m + 1 ≤ (s + 1) * (s + 1) := s2
  exact_mod_cast this
 rw [Rat.intCast_add] at g2
 rw [Rat.intCast_add] at f2
 simp only [Rat.intCast_add, show ((1 : Int) : Rat) = 1 from rfl] at g2 f2
 have hs0 : (0 : Rat) ≤ ((s : Int) : Rat) := by exact_mod_cast (show (0 : Int) ≤ s by omega)
 have ecast : ((s : Nat) : Rat) = ((s : Int) : Rat) := rfl
 rw [ecast]
 generalize ((s : Int) : Rat) = S at *
 generalize ((m : Int) : Rat) = M at *
 rw [e800] at f1 f2
 generalize (2 : Rat) ^ 400 = T at *
 have hT : T ≠ 0 := by grind
 have hTT : (0 : Rat) < T * T := Rat.mul_pos hp hp
 refine ⟨?_, ?_, ?_⟩
 ·rw [← mul_le_iff hp]
  have : S / T * T = S := by grind
  grind
 ·rw [← mul_le_iff hTT]
  have : S / T * (S / T) * (T * T) = S * S := by grind
  grind
 ·have h1 : (S / T + 1 / T) * (S / T + 1 / T) * (T * T) = (S + 1) * (S + 1) := by grind
  by_cases hc : x < (S / T + 1 / T) * (S / T + 1 / T)
  ·exact hc
  ·have := (mul_le_iff hTT).2 (show (S / T + 1 / T) * (S / T + 1 / T) ≤ x by grind)
   grind
theorem near_root {x : Rat} {n : Nat} {a : Int} (hn : n ≤ 160) (ha : Near1 x (2 * n + 6) a) : Near1 (sqrtQ x) n (if a < 0 then 0 else nearZ (isq a.natAbs : Int) 3) := by
 obtain ⟨a1, a2⟩ := ha
 rw [show 2 * n + 6 = (n + 3) + (n + 3) by omega, pow2Q_add] at a1 a2
 have hW := pow2Q_pos (n + 3)
 by_cases hneg : a < 0
 ·rw [if_pos hneg]
  have h1 : a ≤ (-1 : Int) := by omega
  have g1 := Rat.intCast_le_intCast.2 h1
  rw [show ((-1 : Int) : Rat) = -1 by decide] at g1
  have hx : x ≤ 0 := by
   by_cases hc : x ≤ 0
   ·exact hc
   ·have := Rat.mul_pos (show 0 < x by grind) (Rat.mul_pos hW hW); grind
  have hv : sqrtQ x = 0 := by
   by_cases hx0 : x < 0
   ·unfold sqrtQ; rw [if_pos hx0]
   ·have : x = 0 := by grind
    subst this
    decide +kernel
  rw [hv]
  unfold Near1
  rw [show ((0 : Int) : Rat) = 0 from rfl]
  constructor <;> grind
 ·rw [if_neg hneg]
  obtain ⟨r1, r2⟩ := isq_spec a.natAbs
  generalize isq a.natAbs = r at *
  obtain ⟨z1, z2⟩ := nearZ_Q (r : Int) (p := 3) (by decide)
  rw [show (2 : Rat) ^ 3 = 8 by decide] at z1 z2
  have ea : a = (a.natAbs : Int) := by omega
  have g1 : ((r : Int) : Rat) * ((r : Int) : Rat) ≤ (a : Rat) := by
   rw [← Rat.intCast_mul]; apply Rat.intCast_le_intCast.2
   rw [ea]; exact_mod_cast r1
  have g2 : (a : Rat) + 1 ≤ (((r : Int) : Rat) + 1) * (((r : Int) : Rat) + 1) := by
   have h : a + 1 ≤ ((r : Int) + 1) * ((r : Int) + 1) := by
    have : a.natAbs + 1 ≤ (r + 1) * (r + 1) := r2
    rw [ea]; exact_mod_cast this
   have := Rat.intCast_le_intCast.2 h
   simpa only [Rat.intCast_add, Rat.intCast_mul, show ((1 : Int) : Rat) = 1 from rfl] using this
  have hr0 : (0 : Rat) ≤ ((r : Int) : Rat) := by exact_mod_cast (show (0 : Int) ≤ r by omega)
  -- what the root stands for
  have hv : ∃ V e : Rat, 0 ≤ V ∧ 0 ≤ e ∧ e ≤ 1 / 4 ∧ V = sqrtQ x * 2 ^ (n + 3) ∧ V * V ≤ (a : Rat) + 1 ∧ (a : Rat) - 1 < (V + e) * (V + e) := by
   refine ⟨sqrtQ x * 2 ^ (n + 3), 2 ^ (n + 3) / 2 ^ 400, ?_, ?_, ?_, rfl, ?_⟩
   ·by_cases hx : x < 0
    ·unfold sqrtQ; rw [if_pos hx]; grind
    ·exact Rat.mul_nonneg (sqrtQ_spec (by grind)).1 (by grind)
   ·have := pow2Q_pos 400
    rw [← mul_le_iff this]
    have : (2 : Rat) ^ (n + 3) / 2 ^ 400 * 2 ^ 400 = 2 ^ (n + 3) := by grind
    grind
   ·have hp := pow2Q_pos 400
    rw [← mul_le_iff hp]
    have e1 : (2 : Rat) ^ (n + 3) / 2 ^ 400 * 2 ^ 400 = 2 ^ (n + 3) := by grind
    rw [e1]
    have e2 : (2 : Rat) ^ 400 = 2 ^ (n + 3) * 2 ^ (400 - (n + 3)) := by rw [← pow2Q_add]; congr 1; omega
    have e3 : (2 : Rat) ^ (400 - (n + 3)) = 4 * 2 ^ (400 - (n + 3) - 2) := by
     rw [show (4 : Rat) = 2 ^ 2 by decide, ← pow2Q_add]; congr 1; omega
    have h1 := pow2Q_ge1 (400 - (n + 3) - 2)
    rw [e2, e3]
    have := Rat.mul_nonneg (show (0 : Rat) ≤ 2 ^ (n + 3) by grind) (show (0 : Rat) ≤ 2 ^ (400 - (n + 3) - 2) - 1 by grind)
    grind
   ·have ha0 : (0 : Rat) ≤ (a : Rat) := by exact_mod_cast (show 0 ≤ a by omega)
    by_cases hx : x < 0
    ·have hz : sqrtQ x = 0 := by unfold sqrtQ; rw [if_pos hx]
     have hxW := Rat.mul_pos (show 0 < -x by grind) (Rat.mul_pos hW hW)
     rw [hz]
     have he : 0 < (2 : Rat) ^ (n + 3) / 2 ^ 400 := by
      have hp := pow2Q_pos 400
      by_cases hc : 0 < (2 : Rat) ^ (n + 3) / 2 ^ 400
      ·exact hc
      ·have := (mul_le_iff hp).2 (show (2 : Rat) ^ (n + 3) / 2 ^ 400 ≤ 0 by grind)
       have : (2 : Rat) ^ (n + 3) / 2 ^ 400 * 2 ^ 400 = 2 ^ (n + 3) := by grind
       grind
     have := Rat.mul_pos he he
     constructor <;> grind
    ·obtain ⟨s0, s1, s2⟩ := sqrtQ_spec (x := x) (by grind)
     generalize sqrtQ x = v at *
     have hp := pow2Q_pos 400
     have hWW := Rat.mul_pos hW hW
     have m1 := Rat.mul_le_mul_of_nonneg_right s1 (show (0 : Rat) ≤ 2 ^ (n + 3) * 2 ^ (n + 3) by grind)
     have m2 := Rat.mul_lt_mul_of_pos_right s2 hWW
     generalize (2 : Rat) ^ (n + 3) = W at *
     generalize (2 : Rat) ^ 400 = T at *
     constructor <;> grind
  obtain ⟨V, e, hV0, he0, he1, hVe, hV1, hV2⟩ := hv
  generalize ((r : Int) : Rat) = R at *
  have h1 : V < R + 2 := sqQ_lt hV0 (by grind) (by grind)
  have h2 : R - 1 < V + e := by
   by_cases hR : R < 1
   ·grind
   ·exact sqQ_lt (by grind) (by grind) (by grind)
  unfold Near1
  rw [show n + 3 = 3 + n by omega, pow2Q_add, show (2 : Rat) ^ 3 = 8 by decide] at hVe
  constructor <;> grind
end Go.Proofs.Ytlmmgjngihlpeaa.Sx
