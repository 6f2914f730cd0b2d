/- Plain laws: long division (impl). Our own work. -/
import Derived.Test.YtcccndkeaichcaaPureX
namespace Go.Proofs.Ytcccndkeaichcaa.Sx
open Go
set_option linter.unusedVariables false
set_option linter.unusedSimpArgs false
set_option maxRecDepth 100000
theorem sg_split {j U X i : Nat} (hi : j + i ≤ 7) : sg j U 0 0 X = sg j U i (X % 4294967296 ^ i) X := by
  unfold sg
  rw [Nat.pow_zero, Nat.div_one, Nat.sub_zero, limbs_modEq, ← limbs_add, show i + (7 - j - i) = 7 - j by omega]
  rfl
theorem sg_get0 {j U X i : Nat} (h : j + i < 7) : List.getD (sg j U 0 0 X) (j + i) 0 = ((X / 4294967296 ^ i % 4294967296 : Nat) : Int) := by
  rw [sg_split (i := i) (by omega), sg_get h]
theorem pow_nat (p : Nat) : 4294967296 ^ (p + 1) = 4294967296 ^ p * 4294967296 := Nat.pow_succ ..
/-- the step of long division -/
theorem g126L {α : Type} (m j p U V : Nat) (hm : 10 ≤ m) (hjn : j + (p + 2) ≤ 6) (hlo : 4294967296 ^ (p + 2) ≤ 2 * V) (hhi : V < 4294967296 ^ (p + 2)) (hX : U / 4294967296 ^ j < V * 4294967296) (k : Int → List Int → Option α) :
    g126 m j (p + 3) (7 - j) 0 (p + 2) 6 (limbs 7 U) (limbs 6 V) k = k ((U / 4294967296 ^ j / V : Nat) : Int) (sg j U 0 0 (U / 4294967296 ^ j % V)) := by
  rw [← sg_zero j U (by omega)]
  generalize hXX : U / 4294967296 ^ j = X at *
  have hP : 0 < 4294967296 ^ p := Nat.pow_pos (by decide)
  have hp1 := pow_nat p
  have hp2 : 4294967296 ^ (p + 2) = 4294967296 ^ p * 4294967296 * 4294967296 := by rw [pow_nat (p + 1), hp1]
  have hp3 : 4294967296 ^ (p + 3) = 4294967296 ^ (p + 2) * 4294967296 := pow_nat (p + 2)
  have hVpos : 0 < V := by have : 0 < 4294967296 ^ (p + 2) := Nat.pow_pos (by decide); omega
  -- the limbs
  have ev1 : V / 4294967296 ^ (p + 1) < 4294967296 := by rw [hp1]; exact Nat.div_lt_of_lt_mul (by rw [← hp2]; exact hhi)
  have ev2 : V / 4294967296 ^ p % 4294967296 < 4294967296 := Nat.mod_lt _ (by decide)
  have evl : V % 4294967296 ^ p < 4294967296 ^ p := Nat.mod_lt _ hP
  have eu1 : X / 4294967296 ^ (p + 1) % 4294967296 < 4294967296 := Nat.mod_lt _ (by decide)
  have eu2 : X / 4294967296 ^ p % 4294967296 < 4294967296 := Nat.mod_lt _ (by decide)
  have eul : X % 4294967296 ^ p < 4294967296 ^ p := Nat.mod_lt _ hP
  have dV : V = (V / 4294967296 ^ (p + 1) * 4294967296 + V / 4294967296 ^ p % 4294967296) * 4294967296 ^ p + V % 4294967296 ^ p := by
    have h1 := Nat.div_add_mod V (4294967296 ^ p)
    have h2 := Nat.div_add_mod (V / 4294967296 ^ p) 4294967296
    rw [div_pow_succ] at h2
    rw [Nat.mul_comm (V / 4294967296 ^ (p + 1)), h2, Nat.mul_comm]; exact h1.symm
  have dX : X = ((X / 4294967296 ^ (p + 2) * 4294967296 + X / 4294967296 ^ (p + 1) % 4294967296) * 4294967296 + X / 4294967296 ^ p % 4294967296) * 4294967296 ^ p + X % 4294967296 ^ p := by
    have h1 := Nat.div_add_mod X (4294967296 ^ p)
    have h2 := Nat.div_add_mod (X / 4294967296 ^ p) 4294967296
    have h3 := Nat.div_add_mod (X / 4294967296 ^ (p + 1)) 4294967296
    rw [div_pow_succ] at h2 h3
    rw [Nat.mul_comm (X / 4294967296 ^ (p + 2)), h3, Nat.mul_comm (X / 4294967296 ^ (p + 1)), h2, Nat.mul_comm]; exact h1.symm
  have hv1' : 2147483648 ≤ V / 4294967296 ^ (p + 1) := by
    rw [Nat.le_div_iff_mul_le (Nat.pow_pos (by decide)), hp1]
    rw [hp2] at hlo; omega
  have hu0 : X / 4294967296 ^ (p + 2) ≤ V / 4294967296 ^ (p + 1) := by
    apply Nat.le_of_lt_succ
    rw [Nat.div_lt_iff_lt_mul (Nat.pow_pos (by decide))]
    have h1 : V < (V / 4294967296 ^ (p + 1) + 1) * 4294967296 ^ (p + 1) := by
      have h2 := Nat.div_add_mod V (4294967296 ^ (p + 1))
      have h3 := Nat.mod_lt V (show 0 < 4294967296 ^ (p + 1) from Nat.pow_pos (by decide))
      rw [Nat.add_mul, Nat.one_mul, Nat.mul_comm]; omega
    have h4 : V * 4294967296 < (V / 4294967296 ^ (p + 1) + 1) * 4294967296 ^ (p + 1) * 4294967296 := Nat.mul_lt_mul_of_pos_right h1 (by decide)
    rw [Nat.succ_eq_add_one, pow_nat (p + 1), ← Nat.mul_assoc]
    exact Nat.lt_trans hX h4
  have gV1 : List.getD (limbs 6 V) (p + 2 - 1) 0 = ((V / 4294967296 ^ (p + 1) : Nat) : Int) := by
    rw [show p + 2 - 1 = p + 1 by omega, get6 (by omega), Nat.mod_eq_of_lt ev1]
  have gV2 : List.getD (limbs 6 V) (p + 2 - 2) 0 = ((V / 4294967296 ^ p % 4294967296 : Nat) : Int) := by
    rw [show p + 2 - 2 = p by omega, get6 (by omega)]
  have gX2 : List.getD (sg j U 0 0 X) (j + (p + 2 - 2)) 0 = ((X / 4294967296 ^ p % 4294967296 : Nat) : Int) := by
    rw [show p + 2 - 2 = p by omega, sg_get0 (by omega)]
  have gX1 : List.getD (sg j U 0 0 X) (j + (p + 2 - 1)) 0 = ((X / 4294967296 ^ (p + 1) % 4294967296 : Nat) : Int) := by
    rw [show p + 2 - 1 = p + 1 by omega, sg_get0 (by omega)]
  have eu0 : X / 4294967296 ^ (p + 2) < 4294967296 := by omega
  have gX0 : List.getD (sg j U 0 0 X) (j + (p + 2)) 0 = ((X / 4294967296 ^ (p + 2) : Nat) : Int) := by
    rw [sg_get0 (by omega), Nat.mod_eq_of_lt eu0]
  have hXB : X / V < 4294967296 := Nat.div_lt_of_lt_mul hX
  have hXQ : X / V * V ≤ X := Nat.div_mul_le_self _ _
  have hX3 : X < 4294967296 ^ (p + 3) := by
    rw [hp3]
    exact Nat.lt_trans hX (Nat.mul_lt_mul_of_pos_right hhi (by decide))
  have hQ0 := knuth_hi dV dX eul eu2 hXQ
  generalize hv1e : V / 4294967296 ^ (p + 1) = v1 at *
  generalize hu0e : X / 4294967296 ^ (p + 2) = u0 at *
  generalize hu1e : X / 4294967296 ^ (p + 1) % 4294967296 = u1 at *
  have htop : u0 * 4294967296 + u1 < 18446744073709551616 := by omega
  have htd := Nat.div_add_mod (u0 * 4294967296 + u1) v1
  have htm := Nat.mod_lt (u0 * 4294967296 + u1) (show 0 < v1 by omega)
  have hq0 : X / V ≤ (u0 * 4294967296 + u1) / v1 := by rw [Nat.le_div_iff_mul_le (by omega)]; exact hQ0
  obtain ⟨Q, hQe, hQ1, hQ2, hQ3⟩ := knuth_est j (p + 2) v1 _ _ u0 u1 _ _ _ V X (by omega) hjn ev1 hv1' ev2 eu1 eu2 evl eul dV dX hX hu0 (sg j U 0 0 X) (limbs 6 V) gV1 gV2 gX2 m ((u0 * 4294967296 + u1) / v1) ((u0 * 4294967296 + u1) % v1)
    (by omega) (by
      have : 2 * v1 ≤ m * v1 := Nat.mul_le_mul_right _ (by omega)
      omega) (by rw [Nat.mul_comm]; exact htd) hq0
  obtain ⟨c', K', N', hMe, hc', hK', hN', hI⟩ := mulsub j (p + 2) Q U V X hjn hQ2 (p + 2) 0 m 0 0 0 (by omega) (by omega) (by omega) (by omega) (by simp) (by simp [Nat.mod_one])
  have hVm : V % 4294967296 ^ (p + 2) = V := Nat.mod_eq_of_lt hhi
  have hXd := Nat.div_add_mod X (4294967296 ^ (p + 2))
  rw [hu0e] at hXd
  rw [hVm] at hI
  obtain ⟨y, c2, hy, hc2, hyc, e1, e2⟩ := sub_limb eu0 hK' hc'
  have hZ := pow_lt7 (p + 2) hN' hy
  have hI2 : X + 4294967296 ^ (p + 2) * (4294967296 * c2) = (N' + 4294967296 ^ (p + 2) * y) + Q * V := by
    have h1 : 4294967296 ^ (p + 2) * u0 + 4294967296 ^ (p + 2) * (4294967296 * c2) = 4294967296 ^ (p + 2) * y + 4294967296 ^ (p + 2) * K' + 4294967296 ^ (p + 2) * c' := by rw [← Nat.mul_add, hyc, Nat.mul_add, Nat.mul_add]
    rw [Nat.mul_add] at hI
    omega
  have gtop : List.getD (sg j U (p + 2) N' X) (j + (p + 2)) 0 = (u0 : Int) := by rw [sg_get (by omega), hu0e, Nat.mod_eq_of_lt eu0]
  have w1 : IntKind.wrap .i64 (((p + 2 : Nat) : Int) - 1) = ((p + 2 - 1 : Nat) : Int) := by rw [wrapI64 (by omega) (by omega)]; omega
  simp only [g126, g126b, g126l0M, g126l2M, g126l4M]
  rw [w1]
  simp only [Int.toNat_natCast, Nat.zero_add]
  rw [if_pos (by omega), if_pos (by omega), if_pos (by omega), if_pos (by omega), if_pos (by omega), if_pos (by omega), gX0, gX1, gV1, u64_nat (show u0 < 18446744073709551616 by omega), or_top eu0 eu1, u64_nat (show v1 < 18446744073709551616 by omega), if_neg (by omega),
    if_pos (by omega), if_pos (by omega), if_neg (by omega), ← Int.ofNat_tdiv, ← Int.ofNat_tmod, u64_nat (Nat.lt_of_le_of_lt (Nat.div_le_self _ _) htop), hQe]
  have hMe0 : ∀ {α : Type} (k : Int → Int → List Int → Option α), g126l2 j (p + 2 + 1) (7 - j) 0 (p + 2) 6 ((p + 2 : Nat) : Int) (Q : Int) ((p + 2 : Nat) : Int) (limbs 6 V) k m 0 0 0 (sg j U 0 0 X) = k (c' : Int) (K' : Int) (sg j U (p + 2) N' X) := fun k => hMe k
  rw [hMe0, if_pos (by omega), if_pos (by omega), if_pos (by omega), if_pos (by omega), gtop, u64_nat (show u0 < 18446744073709551616 by omega), e1, e2, sg_set (by omega) hN' hy, sg_end (i := p + 2 + 1) (by omega) hZ hX3]
  generalize hZZ : N' + 4294967296 ^ (p + 2) * y = Z at *
  have hQpos : ∀ q : Nat, q * V ≤ X → X < (q + 1) * V → X / V = q ∧ X % V = X - q * V := by
    intro q h1 h2
    have h3 : X / V = q := Nat.div_eq_of_lt_le h1 h2
    have h4 := Nat.div_add_mod X V
    rw [h3, Nat.mul_comm] at h4
    exact ⟨h3, by omega⟩
  rcases (show c2 = 0 ∨ c2 = 1 by omega) with rfl | rfl
  · -- it was enough
    rw [show ((((0 : Nat) : Int)) == 0) = true from rfl, cond_true, wrapU32, Nat.mod_eq_of_lt hQ2]
    have hQX : Q * V ≤ X := by omega
    have hQe2 : Q ≤ X / V := by rw [Nat.le_div_iff_mul_le hVpos]; exact hQX
    have hQq : X / V = Q := by omega
    have h4 := Nat.div_add_mod X V
    rw [hQq, Nat.mul_comm] at h4
    rw [hQq, show X % V = Z by omega]
  · -- one too many
    rw [show ((((1 : Nat) : Int)) == 0) = false from rfl, cond_false]
    obtain ⟨c3, M', hAe, hc3, hM', hJ⟩ := addback j (p + 2) Q U V Z hjn (p + 2) 0 m 0 0 (by omega) (by omega) (by omega) (by simp) (by simp [Nat.mod_one])
    have hAe0 : ∀ {α : Type} (k : Int → List Int → Option α), g126l4 j (p + 2 + 1) (7 - j) 0 (p + 2) 6 ((p + 2 : Nat) : Int) (Q : Int) ((p + 2 : Nat) : Int) (limbs 6 V) k m 0 0 (sg j U 0 0 Z) = k (c3 : Int) (sg j U (p + 2) M' Z) := fun k => hAe k
    have hZy : Z / 4294967296 ^ (p + 2) = y := by
      rw [← hZZ, Nat.add_mul_div_left _ _ (Nat.pow_pos (by decide)), Nat.div_eq_of_lt hN', Nat.zero_add]
    have hZm : Z % 4294967296 ^ (p + 2) = N' := by
      rw [← hZZ, Nat.add_mul_mod_self_left, Nat.mod_eq_of_lt hN']
    rw [hZm, hVm] at hJ
    have hQ1' : 1 ≤ Q := by
      rcases Nat.eq_zero_or_pos Q with rfl | h
      · rw [Nat.zero_mul] at hI2; omega
      · exact h
    obtain ⟨Q', rfl⟩ : ∃ Q', Q = Q' + 1 := ⟨Q - 1, by omega⟩
    have hQV : (Q' + 1) * V = Q' * V + V := by rw [Nat.add_mul, Nat.one_mul]
    rw [hQV] at hI2 hQ3
    have hlt : X < (Q' + 1) * V := by rw [hQV]; omega
    obtain ⟨r1, r2⟩ := hQpos Q' (by omega) hlt
    -- the top limb comes to nothing
    have hsum : M' + 4294967296 ^ (p + 2) * (y + c3) = (X - Q' * V) + 4294967296 ^ (p + 2) * 4294967296 := by
      rw [Nat.mul_add]; omega
    have hW : X - Q' * V < 4294967296 ^ (p + 2) := by omega
    have hyc3 : y + c3 = 4294967296 ∧ M' = X - Q' * V := by
      have hA := congrArg (fun t => t / 4294967296 ^ (p + 2)) hsum
      have hBm := congrArg (fun t => t % 4294967296 ^ (p + 2)) hsum
      simp only [Nat.add_mul_div_left _ _ (show 0 < 4294967296 ^ (p + 2) from Nat.pow_pos (by decide)), Nat.div_eq_of_lt hM', Nat.div_eq_of_lt hW, Nat.zero_add] at hA
      simp only [Nat.add_mul_mod_self_left, Nat.mod_eq_of_lt hM', Nat.mod_eq_of_lt hW] at hBm
      exact ⟨hA, hBm⟩
    have gt2 : List.getD (sg j U (p + 2) M' Z) (j + (p + 2)) 0 = (y : Int) := by rw [sg_get (by omega), hZy, Nat.mod_eq_of_lt hy]
    have hsgs := sg_set (j := j) (U := U) (X := Z) (y := 0) (show j + (p + 2) < 7 by omega) hM' (by decide)
    rw [Nat.mul_zero, Nat.add_zero] at hsgs
    rw [hAe0, if_pos (by omega), if_pos (by omega), if_pos (by omega), if_pos (by omega), gt2, wrapU32 c3, Nat.mod_eq_of_lt (by omega), ← Int.natCast_add, wrapU32, hyc3.1, Nat.mod_self, hsgs, Nat.add_zero M',
      sg_end (i := p + 2 + 1) (by omega) (Nat.lt_trans hM' (Nat.pow_lt_pow_right (by decide) (by omega))) hZ, hyc3.2, r1, r2,
      show ((Q' + 1 : Nat) : Int) - 1 = (Q' : Int) by omega, u64_nat (by omega), wrapU32, Nat.mod_eq_of_lt (by omega)]
end Go.Proofs.Ytcccndkeaichcaa.Sx
