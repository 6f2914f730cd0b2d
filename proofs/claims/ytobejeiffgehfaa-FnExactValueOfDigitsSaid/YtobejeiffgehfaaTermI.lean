/- Plain laws: IsWithin and ValueOfDigits. Our own work. -/
import Derived.Test.YtobejeiffgehfaaZedB
namespace Go.Proofs.Ytobejeiffgehfaa.Sx
open Go
set_option linter.unusedVariables false
set_option linter.unusedSimpArgs false
set_option maxRecDepth 100000
theorem g64L {α : Type} (m : Nat) (x lo hi : Int) (k : Bool → Option α) : g64 m x lo hi k = k (decide (lo ≤ x ∧ x ≤ hi)) := by
  rw [g64_o, cond_k]
  congr 1
  by_cases h : lo ≤ x <;> by_cases h' : x ≤ hi <;> simp [h, h']
theorem g81L {α : Type} (m : Nat) (x lo hi : Int) (k : Bool → Option α) : g81 m x lo hi k = k (decide (lo ≤ x ∧ x ≤ hi)) := by
  rw [g81_o, cond_k]
  congr 1
  by_cases h : lo ≤ x <;> by_cases h' : x ≤ hi <;> simp [h, h']
theorem g58L {α : Type} (m : Nat) (x : Int) (k : Bool → Option α) : g58 m x k = k (decide (0 ≤ x ∧ x ≤ 64)) := by
  rw [g58_o, g81L]
theorem pow_fit {p : Nat} (hp : p ≤ 64) : ((1 : Int) * 2 ^ p).natAbs < W192 ∧ ((1 : Int) * 2 ^ p + 1).natAbs < W192 := by
  have h1 : 2 ^ p ≤ 2 ^ 64 := Nat.pow_le_pow_right (by decide) hp
  have h2 : (2 : Nat) ^ 64 + 1 < W192 := by decide
  have h3 : ((1 : Int) * 2 ^ p) = ((2 ^ p : Nat) : Int) := by rw [Int.one_mul]; norm_cast
  have h4 : (((2 ^ p : Nat) : Int) + 1) = ((2 ^ p + 1 : Nat) : Int) := by omega
  rw [h3, h4, Int.natAbs_natCast, Int.natAbs_natCast]
  omega
theorem within_res (n : Nat) {q r : Bool} {a b : Nat} (ha : a < W192) (hb : b < W192) (p p' : Int) : ∃ (v : Bool) (x : Int),
    (∀ {α : Type} (k : Bool → Int → Option α), g24 (n + 40) q (limbs 6 a) r (limbs 6 b) p p' k = k v x) ∧
    (∀ {α : Type} (k : Bool → Int → Option α), g25 (n + 40) q (limbs 6 a) r (limbs 6 b) p p' k = k v x) := by
  by_cases v1 : (!(q && decide (a = 0))) = true
  · by_cases v2 : (!(r && decide (b = 0))) = true
    · obtain ⟨x, hx, rfl, ex⟩ := zed_of ha v1
      obtain ⟨y, hy, rfl, ey⟩ := zed_of hb v2
      rw [ex, ey]
      by_cases c1 : 0 ≤ p ∧ p ≤ 64
      · by_cases c2 : 0 ≤ p' ∧ p' ≤ 64
        · obtain ⟨t, rfl⟩ : ∃ t : Nat, p' = t := ⟨p'.toNat, by omega⟩
          have ht : t ≤ 64 := by omega
          obtain ⟨f1, f2⟩ := pow_fit ht
          by_cases h1 : fitZ (x * 2 ^ t) = true
          · have h1' := fitZ_iff.1 h1
            by_cases h2 : fitZ (x * 2 ^ t - y) = true
            · refine ⟨decide ((x * 2 ^ t - y).natAbs ≤ ((1 : Int) * 2 ^ t + 1).natAbs), 0, fun {α} k => ?_, fun {α} k => ?_⟩
              · rw [g24_o, g46Z _ hx, Bool.not_true, cond_false, g46Z _ hy, Bool.not_true, cond_false, g58L, dT c1, Bool.not_true, cond_false, g58L, dT c2, Bool.not_true, cond_false,
                  g59Z (n := n) t (by omega) hx, h1, cond_true, bne_self_eq_false, cond_false, g61Z _ hy, ← zl_neg y, g60Z (n := n + 33) h1' (by rw [Int.natAbs_neg]; exact hy), ← Int.sub_eq_add_neg, h2, cond_true, bne_self_eq_false, cond_false,
                  g62Z _ (by omega) (by omega), g59Z (n := n) t (by omega) (by decide), fitZ_iff.2 f1, cond_true, g62Z _ (by omega) (by omega), g60Z (n := n + 33) f1 (by decide), fitZ_iff.2 f2, cond_true]
                have : zs ((1 : Int) * 2 ^ t + 1) = false := by
                  have := Int.pow_pos (m := t) (show (0 : Int) < 2 by decide)
                  unfold zs
                  exact dF (by omega)
                rw [this]
                unfold zl
                rw [g63L (n + 33) (fitZ_iff.1 h2) f2, cmpN_le]
              · rw [g25_o, g49Z _ hx, Bool.not_true, cond_false, g49Z _ hy, Bool.not_true, cond_false, g64L, dT c1, Bool.not_true, cond_false, g64L, dT c2, Bool.not_true, cond_false,
                  g66Z (n := n) t false (by omega) hx, h1, cond_true, g65Z (n := n + 33) h1' hy, h2, zt_of (fitZ_iff.1 h2), Bool.not_true, Bool.or_false, cond_false, g67L, g68L (n + 33) t (by omega) (show 1 < W192 by decide), g67L]
                have e : 1 * 2 ^ t = ((1 : Int) * 2 ^ t).natAbs := by
                  rw [Int.one_mul, Nat.one_mul, Int.natAbs_pow]; rfl
                have e2 : ((1 : Int) * 2 ^ t).natAbs + 1 = ((1 : Int) * 2 ^ t + 1).natAbs := by
                  have := Int.pow_pos (m := t) (show (0 : Int) < 2 by decide)
                  omega
                rw [e, g69L (n + 33) f1 (by decide), e2]
                unfold zl
                rw [g70L (n + 33) (fitZ_iff.1 h2) f2, cmpN_le]
            · simp only [Bool.not_eq_true] at h2
              refine ⟨false, 3, fun {α} k => ?_, fun {α} k => ?_⟩
              · rw [g24_o, g46Z _ hx, Bool.not_true, cond_false, g46Z _ hy, Bool.not_true, cond_false, g58L, dT c1, Bool.not_true, cond_false, g58L, dT c2, Bool.not_true, cond_false,
                  g59Z (n := n) t (by omega) hx, h1, cond_true, bne_self_eq_false, cond_false, g61Z _ hy, ← zl_neg y, g60Z (n := n + 33) h1' (by rw [Int.natAbs_neg]; exact hy), ← Int.sub_eq_add_neg, h2, cond_false]; rfl
              · rw [g25_o, g49Z _ hx, Bool.not_true, cond_false, g49Z _ hy, Bool.not_true, cond_false, g64L, dT c1, Bool.not_true, cond_false, g64L, dT c2, Bool.not_true, cond_false,
                  g66Z (n := n) t false (by omega) hx, h1, cond_true, g65Z (n := n + 33) h1' hy, h2]; rfl
          · simp only [Bool.not_eq_true] at h1
            refine ⟨false, 3, fun {α} k => ?_, fun {α} k => ?_⟩
            · rw [g24_o, g46Z _ hx, Bool.not_true, cond_false, g46Z _ hy, Bool.not_true, cond_false, g58L, dT c1, Bool.not_true, cond_false, g58L, dT c2, Bool.not_true, cond_false,
                g59Z (n := n) t (by omega) hx, h1, cond_false]; rfl
            · rw [g25_o, g49Z _ hx, Bool.not_true, cond_false, g49Z _ hy, Bool.not_true, cond_false, g64L, dT c1, Bool.not_true, cond_false, g64L, dT c2, Bool.not_true, cond_false,
                g66Z (n := n) t false (by omega) hx, h1, cond_false]
              have := g65Z (n := n + 33) (x := 0) (y := y) (by decide) hy true (α := α)
              rw [show zs 0 = false from rfl, show zl 0 = [0, 0, 0, 0, 0, 0] from rfl] at this
              rw [this]; rfl
        · refine ⟨false, 2, fun {α} k => ?_, fun {α} k => ?_⟩
          · rw [g24_o, g46Z _ hx, Bool.not_true, cond_false, g46Z _ hy, Bool.not_true, cond_false, g58L, dT c1, Bool.not_true, cond_false, g58L, dF c2]; rfl
          · rw [g25_o, g49Z _ hx, Bool.not_true, cond_false, g49Z _ hy, Bool.not_true, cond_false, g64L, dT c1, Bool.not_true, cond_false, g64L, dF c2]; rfl
      · refine ⟨false, 2, fun {α} k => ?_, fun {α} k => ?_⟩
        · rw [g24_o, g46Z _ hx, Bool.not_true, cond_false, g46Z _ hy, Bool.not_true, cond_false, g58L, dF c1]; rfl
        · rw [g25_o, g49Z _ hx, Bool.not_true, cond_false, g49Z _ hy, Bool.not_true, cond_false, g64L, dF c1]; rfl
    · simp only [Bool.not_eq_true] at v2
      refine ⟨false, 1, fun {α} k => ?_, fun {α} k => ?_⟩
      · rw [g24_o, g46L _ _ ha, v1, Bool.not_true, cond_false, g46L _ _ hb, v2]; rfl
      · rw [g25_o, g49L _ _ ha, v1, Bool.not_true, cond_false, g49L _ _ hb, v2]; rfl
  · simp only [Bool.not_eq_true] at v1
    refine ⟨false, 1, fun {α} k => ?_, fun {α} k => ?_⟩
    · rw [g24_o, g46L _ _ ha, v1]; rfl
    · rw [g25_o, g49L _ _ ha, v1]; rfl
theorem lawWithin (n : Nat) (q r : Bool) {a b : Nat} (ha : a < W192) (hb : b < W192) (p p' : Int) {α : Type} (k : Bool → Option α) : g6 (n + 40) q (limbs 6 a) r (limbs 6 b) p p' k = k true := by
  obtain ⟨v, x, h1, h2⟩ := within_res n (q := q) (r := r) ha hb p p'
  rw [g6_o, g19L (n + 33), g19L (n + 33), h1, g19L (n + 33), g19L (n + 33), h2, beq_self_eq_true, Bool.not_true, cond_false, bne_self_eq_false, cond_false]
theorem lawWithin' (ls : List Lf) (hw : WT g6tp ls) : g6K (g6 47) ls (fun v _ _ => saysTrue v) = some () := by
  obtain ⟨a, ha, e1⟩ := limbs_ex hw.1.2.1.1 hw.1.2.1.2
  obtain ⟨b, hb, e2⟩ := limbs_ex hw.2.1.2.1.1 hw.2.1.2.1.2
  have := lawWithin 7 (lf ls 0).bool (lf ls 2).bool ha hb (lf ls 4).int (lf ls 5).int (fun b => saysTrue (.vl (.sv (.bool b))))
  rw [← e1, ← e2] at this
  exact this
end Go.Proofs.Ytobejeiffgehfaa.Sx
