/- Plain laws of machines (Moebius). Our own work. -/
import Derived.Test.YtbpljilgekneoaaRatA
namespace Go.Proofs.Ytbpljilgekneoaa.Sx
open Go
set_option linter.unusedVariables false
set_option linter.unusedSimpArgs false
set_option maxRecDepth 100000
def inM (x : Int) : Bool := inR x (-1000000) 1000000
def fitsM (a b c d : Int) : Bool := inM a && (inM b && (inM c && inM d))
theorem g68E {α : Type} (m : Nat) (a b c d : Int) (k : Bool → Option α) : g68 m 1000000 a b c d k = k (fitsM a b c d) := by
  have hw : IntKind.wrap .i64 (0 - 1000000) = -1000000 := by decide
  simp only [g68, g68b, g63E, hw]
  unfold fitsM inM
  cases inR a (-1000000) 1000000 <;> cases inR b (-1000000) 1000000 <;> cases inR c (-1000000) 1000000 <;> rfl
theorem inM_sm {x : Int} (h : inM x = true) : Sm x := sm_of h (by decide) (by decide)
/-- a machine that is valid -/
def mOk (a b c d : Int) : Bool := fitsM a b c d && decide (d > (c.natAbs : Int))
theorem fits_and {a b c d : Int} (h : fitsM a b c d = true) : inM a = true ∧ inM b = true ∧ inM c = true ∧ inM d = true := by
  unfold fitsM at h
  simp only [Bool.and_eq_true] at h
  exact h
theorem g57E {α : Type} (m : Nat) (a b c d : Int) (k : Bool → Option α) : g57 m a b c d k = k (mOk a b c d) := by
  simp only [g57, g57b, g68E]
  unfold mOk
  cases h : fitsM a b c d
  · rfl
  · simp only [cond_true, Bool.true_and]
    rw [g67E m (inM_sm (fits_and h).2.2.1)]
theorem g19E {α : Type} (m : Nat) (hm : 6 ≤ m) (a b c d : Int) (k : Bool → Option α) : g19 m a b c d k = k (mOk a b c d) := by
  obtain ⟨n, rfl⟩ : ∃ n, m = n + 6 := ⟨m - 6, by omega⟩
  have e : g19 (n + 6) a b c d k = cond (decide (a ≥ -1000000)) (cond (!(decide (a ≤ 1000000))) (k false) (cond (decide (b ≥ -1000000)) (cond (!(decide (b ≤ 1000000))) (k false)
      (cond (decide (c ≥ -1000000)) (cond (!(decide (c ≤ 1000000))) (k false) (cond (decide (d ≥ -1000000)) (cond (!(decide (d ≤ 1000000))) (k false) (k (decide (d > imax c (IntKind.wrap .i64 (0 - c)))))) (k false))) (k false))) (k false))) (k false) := by kernel_rfl
  rw [e]
  unfold mOk fitsM inM inR
  cases h1 : decide (a ≥ -1000000)
  · rfl
  · cases h2 : decide (a ≤ 1000000)
    · rfl
    · cases h3 : decide (b ≥ -1000000)
      · rfl
      · cases h4 : decide (b ≤ 1000000)
        · rfl
        · cases h5 : decide (c ≥ -1000000)
          · rfl
          · cases h6 : decide (c ≤ 1000000)
            · rfl
            · have hc : Sm c := by simp at h5 h6; unfold Sm Big; omega
              rw [absMax hc]
              cases h7 : decide (d ≥ -1000000)
              · rfl
              · cases h8 : decide (d ≤ 1000000) <;> rfl
theorem fu6 : 6 ≤ FU := by decide
theorem law3 (a b c d : Int) {α : Type} (k : Bool → Option α) : g3 FU a b c d k = k true := by
  simp only [g3, g3b, g18, g18b, g17, g17b, g57E, g19E FU fu6, beq_self_eq_true, Bool.not_true, cond_false]
theorem law3' (ls : List Lf) (hw : WT g3tp ls) : g3K (g3 2000000000000000000) ls (fun v _ _ => saysTrue v) = some () := law3 _ _ _ _ _
theorem mul_bd {x y X Y : Int} (hx : -X ≤ x ∧ x ≤ X) (hy : -Y ≤ y ∧ y ≤ Y) : -(X * Y) ≤ x * y ∧ x * y ≤ X * Y := by
  have h1 : x.natAbs ≤ X.natAbs := by omega
  have h2 : y.natAbs ≤ Y.natAbs := by omega
  have h3 := Nat.mul_le_mul h1 h2
  rw [← Int.natAbs_mul, ← Int.natAbs_mul] at h3
  have hX : 0 ≤ X := by omega
  have hY : 0 ≤ Y := by omega
  have hXY := Int.mul_nonneg hX hY
  omega
theorem inM_iff {x : Int} (h : inM x = true) : -1000000 ≤ x ∧ x ≤ 1000000 := inR_iff.1 h
theorem rOk_iff {p q : Int} (h : rOk p q = true) : (1 ≤ q ∧ q ≤ 2147483648) ∧ (-2147483648 ≤ p ∧ p ≤ 2147483648) := by
  unfold rOk at h
  simp only [Bool.and_eq_true] at h
  exact ⟨inR_iff.1 h.1, inR_iff.1 h.2.1⟩
theorem mOk_iff {a b c d : Int} (h : mOk a b c d = true) : (-1000000 ≤ a ∧ a ≤ 1000000) ∧ (-1000000 ≤ b ∧ b ≤ 1000000) ∧ (-1000000 ≤ c ∧ c ≤ 1000000) ∧ (-1000000 ≤ d ∧ d ≤ 1000000) ∧ (c.natAbs : Int) < d := by
  unfold mOk at h
  simp only [Bool.and_eq_true, decide_eq_true_eq] at h
  obtain ⟨h1, h2, h3, h4⟩ := fits_and h.1
  exact ⟨inM_iff h1, inM_iff h2, inM_iff h3, inM_iff h4, h.2⟩
/-- a linear form of a machine's numbers and a ratio's -/
theorem lin_sm {a b p q : Int} (ha : -1000000 ≤ a ∧ a ≤ 1000000) (hb : -1000000 ≤ b ∧ b ≤ 1000000) (hp : -2147483648 ≤ p ∧ p ≤ 2147483648) (hq : -2147483648 ≤ q ∧ q ≤ 2147483648) :
    IntKind.wrap .i64 ((IntKind.wrap .i64 (a * p)) + (IntKind.wrap .i64 (b * q))) = a * p + b * q ∧ Sm (a * p + b * q) := by
  have h1 := mul_bd ha hp
  have h2 := mul_bd hb hq
  rw [show (1000000 : Int) * 2147483648 = 2147483648000000 from rfl] at h1 h2
  rw [wrapI64 (x := a * p) (by omega) (by omega), wrapI64 (x := b * q) (by omega) (by omega), wrapI64 (by omega) (by omega)]
  exact ⟨rfl, by unfold Sm Big; omega⟩
theorem mkA_mkR {p q : Int} (hp : Sm p) (hq : Sm q) : mkA p q = cond (q == 0) (0, 0, 4) (mkR p q) := by
  unfold mkA
  have h1 : inR p (-1000000000000000000) 1000000000000000000 = true := inR_iff.2 hp
  have h2 : inR q (-1000000000000000000) 1000000000000000000 = true := inR_iff.2 hq
  rw [h1, h2]; rfl
theorem law7 (a b c d p q : Int) {α : Type} (k : Bool → Option α) : g7 FU a b c d p q k = k true := by
  simp only [g7, g7b, g18, g18b, g21, g21b, g28, g28b, g29, g29b, g57E, g19E FU fu6, g59E FU (Nat.le_refl _), g22E FU (Nat.le_refl _), g26E FU (Nat.le_refl _)]
  cases h1 : mOk a b c d
  · simp only [Bool.not_false, cond_true, g27E, Bool.not_true, cond_false, bne_self_eq_false]
  · cases h2 : rOk p q
    · simp only [Bool.not_false, cond_true, g27E, Bool.not_true, cond_false, bne_self_eq_false]
    · obtain ⟨i1, i2, i3, i4, i5⟩ := mOk_iff h1
      obtain ⟨j1, j2⟩ := rOk_iff h2
      obtain ⟨e1, s1⟩ := lin_sm i1 i2 j2 (show -2147483648 ≤ q ∧ q ≤ 2147483648 by omega)
      obtain ⟨e2, s2⟩ := lin_sm i3 i4 j2 (show -2147483648 ≤ q ∧ q ≤ 2147483648 by omega)
      simp only [Bool.not_true, cond_false, e1, e2, mkA_mkR s1 s2]
      cases h3 : (c * p + d * q == 0)
      · simp only [cond_false]
        rw [g64E FU (Nat.le_refl _) s1 s2 (by simpa using h3)]
        simp only [g27E, Bool.not_true, cond_false, bne_self_eq_false]
      · simp only [cond_true, g27E, Bool.not_true, cond_false, bne_self_eq_false]
theorem law7' (ls : List Lf) (hw : WT g7tp ls) : g7K (g7 2000000000000000000) ls (fun v _ _ => saysTrue v) = some () := law7 _ _ _ _ _ _ _
end Go.Proofs.Ytbpljilgekneoaa.Sx
