/- Plain laws of machines: products of machines. Our own work. -/
import Derived.Test.YtbpljilgekneoaaRatC
namespace Go.Proofs.Ytbpljilgekneoaa.Sx
open Go
set_option linter.unusedVariables false
set_option linter.unusedSimpArgs false
set_option maxRecDepth 100000
theorem gG_sm {p q : Int} (hp : Sm p) (hq : Sm q) : Sm (gG p q) := by
  have hp' := sm_nat hp
  have hq' := sm_nat hq
  unfold Sm Big gG
  by_cases h : q = 0
  · subst h; simp; omega
  · have h1 : Nat.gcd p.natAbs q.natAbs ≤ q.natAbs := Nat.gcd_le_right _ (by omega)
    omega
/-- the greatest common divisor of four numbers -/
def gG4 (a b c d : Int) : Int := gG (gG a b) (gG c d)
theorem g65E {α : Type} (m : Nat) (hm : FU ≤ m) {a b c d : Int} (ha : Sm a) (hb : Sm b) (hc : Sm c) (hd : Sm d) (k : Int → Option α) : g65 m a b c d k = k (gG4 a b c d) := by
  unfold g65 g65b
  show g85 m a b _ = _
  rw [g85E m hm ha hb]
  show g85 m c d _ = _
  rw [g85E m hm hc hd]
  show g85 m (gG a b) (gG c d) _ = _
  rw [g85E m hm (gG_sm ha hb) (gG_sm hc hd)]
  rfl
theorem g60E4 {α : Type} (m : Nat) (hm : FU ≤ m) {a b c d : Int} (ha : Sm a) (hb : Sm b) (hc : Sm c) (hd : Sm d) (k : Int → Option α) : g60v1 m 0 4 4 [a, b, c, d] k = k (gG4 a b c d) := by
  have ha' := sm_nat ha
  have hb' := sm_nat hb
  have hc' := sm_nat hc
  have hd' := sm_nat hd
  obtain ⟨j, rfl⟩ : ∃ j, m = j + 5 := ⟨m - 5, by unfold FU at hm; omega⟩
  unfold FU at hm
  have e1 : g60v1 (j + 5) 0 4 4 [a, b, c, d] k = g60v1l2 0 4 4 4 0 [a, b, c, d] (fun x => g60v1l0 (g60v1l2M (j + 5)) 0 4 4 4 [a, b, c, d] (fun x => k x) (j + 4) x 1) (j + 5) 0 (imax a (IntKind.wrap .i64 (0 - a))) := by kernel_rfl
  have e2 : ∀ x, g60v1l0 (g60v1l2M (j + 5)) 0 4 4 4 [a, b, c, d] (fun x => k x) (j + 4) x 1 = g60v1l2 0 4 4 4 1 [a, b, c, d] (fun x => g60v1l0 (g60v1l2M (j + 5)) 0 4 4 4 [a, b, c, d] (fun x => k x) (j + 3) x 2) (j + 5) x (imax b (IntKind.wrap .i64 (0 - b))) := by intro x; kernel_rfl
  have e3 : ∀ x, g60v1l0 (g60v1l2M (j + 5)) 0 4 4 4 [a, b, c, d] (fun x => k x) (j + 3) x 2 = g60v1l2 0 4 4 4 2 [a, b, c, d] (fun x => g60v1l0 (g60v1l2M (j + 5)) 0 4 4 4 [a, b, c, d] (fun x => k x) (j + 2) x 3) (j + 5) x (imax c (IntKind.wrap .i64 (0 - c))) := by intro x; kernel_rfl
  have e4 : ∀ x, g60v1l0 (g60v1l2M (j + 5)) 0 4 4 4 [a, b, c, d] (fun x => k x) (j + 2) x 3 = g60v1l2 0 4 4 4 3 [a, b, c, d] (fun x => g60v1l0 (g60v1l2M (j + 5)) 0 4 4 4 [a, b, c, d] (fun x => k x) (j + 1) x 4) (j + 5) x (imax d (IntKind.wrap .i64 (0 - d))) := by intro x; kernel_rfl
  have e5 : ∀ x, g60v1l0 (g60v1l2M (j + 5)) 0 4 4 4 [a, b, c, d] (fun x => k x) (j + 1) x 4 = k x := by intro x; kernel_rfl
  rw [e1, absMax ha, show (0 : Int) = ((0 : Nat) : Int) from rfl]
  rw [euclid (L := fun m x y => g60v1l2 0 4 4 4 ((0 : Nat) : Int) [a, b, c, d] (fun x => g60v1l0 (g60v1l2M (j + 5)) 0 4 4 4 [a, b, c, d] (fun x => k x) (j + 4) x 1) m x y) (fun m a b => rfl) a.natAbs (j + 5) 0 a.natAbs (Nat.le_refl _) (by omega)]
  rw [Nat.gcd_zero_left, e2, absMax hb]
  rw [euclid (L := fun m x y => g60v1l2 0 4 4 4 1 [a, b, c, d] (fun x => g60v1l0 (g60v1l2M (j + 5)) 0 4 4 4 [a, b, c, d] (fun x => k x) (j + 3) x 2) m x y) (fun m a b => rfl) b.natAbs (j + 5) a.natAbs b.natAbs (Nat.le_refl _) (by omega)]
  rw [e3, absMax hc]
  rw [euclid (L := fun m x y => g60v1l2 0 4 4 4 2 [a, b, c, d] (fun x => g60v1l0 (g60v1l2M (j + 5)) 0 4 4 4 [a, b, c, d] (fun x => k x) (j + 2) x 3) m x y) (fun m a b => rfl) c.natAbs (j + 5) _ c.natAbs (Nat.le_refl _) (by omega)]
  rw [e4, absMax hd]
  rw [euclid (L := fun m x y => g60v1l2 0 4 4 4 3 [a, b, c, d] (fun x => g60v1l0 (g60v1l2M (j + 5)) 0 4 4 4 [a, b, c, d] (fun x => k x) (j + 1) x 4) m x y) (fun m a b => rfl) d.natAbs (j + 5) _ d.natAbs (Nat.le_refl _) (by omega)]
  rw [e5]
  unfold gG4 gG
  simp only [Int.natAbs_natCast]
  rw [Nat.gcd_assoc]
theorem gG4_sm {a b c d : Int} (ha : Sm a) (hb : Sm b) (hc : Sm c) (hd : Sm d) : Sm (gG4 a b c d) := gG_sm (gG_sm ha hb) (gG_sm hc hd)
theorem gG4_zero {a b c d : Int} (h : gG4 a b c d = 0) : a = 0 ∧ b = 0 ∧ c = 0 ∧ d = 0 := by
  unfold gG4 gG at h
  simp only [Int.natAbs_natCast] at h
  have h' : Nat.gcd (Nat.gcd a.natAbs b.natAbs) (Nat.gcd c.natAbs d.natAbs) = 0 := by omega
  obtain ⟨h1, h2⟩ := Nat.gcd_eq_zero_iff.1 h'
  obtain ⟨h3, h4⟩ := Nat.gcd_eq_zero_iff.1 h1
  obtain ⟨h5, h6⟩ := Nat.gcd_eq_zero_iff.1 h2
  omega
theorem imax_le {x y z : Int} : imax x y ≤ z ↔ x ≤ z ∧ y ≤ z := by
  unfold imax; split <;> omega
theorem g70E {α : Type} (m : Nat) {a b c d : Int} (ha : Sm a) (hb : Sm b) (hc : Sm c) (hd : Sm d) (k : Bool → Option α) : g70 m a b c d (fun x => k (decide (x > 1000000))) = k (!(fitsM a b c d)) := by
  unfold g70 g70b
  show k (decide (imax _ _ > 1000000)) = _
  congr 1
  have hn : ∀ {x : Int}, Sm x → IntKind.wrap .i64 (0 - x) = -x := fun h => by
    rw [show ∀ x : Int, 0 - x = -x from fun x => by omega]; exact wrap_sm (sm_neg h)
  rw [hn ha, hn hb, hn hc, hn hd]
  have hiff : ∀ x : Int, inM x = true ↔ x ≤ 1000000 ∧ -x ≤ 1000000 := fun x => by
    unfold inM; rw [inR_iff]; omega
  by_cases h : fitsM a b c d = true
  · rw [h]
    obtain ⟨h1, h2, h3, h4⟩ := fits_and h
    rw [hiff] at h1 h2 h3 h4
    have : imax (imax (imax (imax (imax (imax (imax a (-a)) b) (-b)) c) (-c)) d) (-d) ≤ 1000000 := by
      simp only [imax_le]; omega
    rw [decide_eq_false (by omega)]; rfl
  · have hf : fitsM a b c d = false := by simpa using h
    rw [hf]
    have : ¬ imax (imax (imax (imax (imax (imax (imax a (-a)) b) (-b)) c) (-c)) d) (-d) ≤ 1000000 := by
      intro hle
      simp only [imax_le] at hle
      apply h
      unfold fitsM
      rw [(hiff a).2 (by omega), (hiff b).2 (by omega), (hiff c).2 (by omega), (hiff d).2 (by omega)]; rfl
    rw [decide_eq_true (by omega)]; rfl
/-- what is made of four numbers -/
def fin4 (x : Int × Int × Int × Int) : Int × Int × Int × Int × Int :=
  cond (decide (x.2.2.2 ≤ (x.2.2.1.natAbs : Int))) (0, 0, 0, 0, 4) (cond (!(fitsM x.1 x.2.1 x.2.2.1 x.2.2.2)) (0, 0, 0, 0, 3) (x.1, x.2.1, x.2.2.1, x.2.2.2, 0))
theorem lin_m {a b p q : Int} (ha : -1000000 ≤ a ∧ a ≤ 1000000) (hb : -1000000 ≤ b ∧ b ≤ 1000000) (hp : -1000000 ≤ p ∧ p ≤ 1000000) (hq : -1000000 ≤ q ∧ q ≤ 1000000) :
    IntKind.wrap .i64 ((IntKind.wrap .i64 (a * p)) + (IntKind.wrap .i64 (b * q))) = a * p + b * q ∧ Sm (a * p + b * q) := lin_sm ha hb (by omega) (by omega)
theorem g30E {α : Type} (m : Nat) (hm : FU ≤ m) (a b c d p q r s : Int) (k : Int → Int → Int → Int → Int → Option α) (h1 : mOk a b c d = true) (h2 : mOk p q r s = true) :
    ∃ R : Int × Int × Int × Int × Int, g30 m a b c d p q r s k = k R.1 R.2.1 R.2.2.1 R.2.2.2.1 R.2.2.2.2 ∧ ∀ k : Int → Int → Int → Int → Int → Option α, g31 m a b c d p q r s k = k R.1 R.2.1 R.2.2.1 R.2.2.2.1 R.2.2.2.2 := by
  obtain ⟨i1, i2, i3, i4, i5⟩ := mOk_iff h1
  obtain ⟨j1, j2, j3, j4, j5⟩ := mOk_iff h2
  obtain ⟨e1, s1⟩ := lin_m i1 i2 j1 j3
  obtain ⟨e2, s2⟩ := lin_m i1 i2 j2 j4
  obtain ⟨e3, s3⟩ := lin_m i3 i4 j1 j3
  obtain ⟨e4, s4⟩ := lin_m i3 i4 j2 j4
  have hm6 : 6 ≤ m := Nat.le_trans fu6 hm
  simp only [g30, g30b, g31, g31b, g57E, g19E m hm6, h1, h2, Bool.not_true, cond_false, e1, e2, e3, e4]
  generalize a * p + b * r = x1 at *
  generalize a * q + b * s = x2 at *
  generalize c * p + d * r = x3 at *
  generalize c * q + d * s = x4 at *
  simp only [g69, g69b, g66, g66b, g65E m hm s1 s2 s3 s4, g60E4 m hm s1 s2 s3 s4]
  have hgs := gG4_sm s1 s2 s3 s4
  by_cases hg : gG4 x1 x2 x3 x4 = 0
  · obtain ⟨rfl, rfl, rfl, rfl⟩ := gG4_zero hg
    refine ⟨(0, 0, 0, 0, 4), ?_, fun k => ?_⟩
    · rw [hg]; rfl
    · rw [hg]; rfl
  · have hb : (gG4 x1 x2 x3 x4 == 0) = false := by simpa using hg
    simp only [hb, cond_false, if_neg hg]
    have t1 := tdiv_le s1 hg
    have t2 := tdiv_le s2 hg
    have t3 := tdiv_le s3 hg
    have t4 := tdiv_le s4 hg
    rw [wrap_sm t1, wrap_sm t2, wrap_sm t3, wrap_sm t4]
    generalize x1.tdiv (gG4 x1 x2 x3 x4) = y1 at *
    generalize x2.tdiv (gG4 x1 x2 x3 x4) = y2 at *
    generalize x3.tdiv (gG4 x1 x2 x3 x4) = y3 at *
    generalize x4.tdiv (gG4 x1 x2 x3 x4) = y4 at *
    have hn : ∀ {x : Int}, Sm x → IntKind.wrap .i64 (0 - x) = -x := fun h => by
      rw [show ∀ x : Int, 0 - x = -x from fun x => by omega]; exact wrap_sm (sm_neg h)
    refine ⟨fin4 (cond (decide (y4 < 0)) (-y1, -y2, -y3, -y4) (y1, y2, y3, y4)), ?_, fun k => ?_⟩
    · rw [hn t1, hn t2, hn t3, hn t4]
      cases decide (y4 < 0) <;> simp only [cond_true, cond_false, g67E m t3, g67E m (sm_neg t3), g68E]
      · unfold fin4
        cases decide (y4 ≤ (y3.natAbs : Int)) <;> cases fitsM y1 y2 y3 y4 <;> rfl
      · unfold fin4
        cases decide (-y4 ≤ ((-y3).natAbs : Int)) <;> cases fitsM (-y1) (-y2) (-y3) (-y4) <;> rfl
    · have a3 := absMax t3
      have a3' := absMax (sm_neg t3)
      rw [hn t1, hn t2, hn t3, hn t4]
      rw [hn t3] at a3
      cases decide (y4 < 0) <;> simp only [cond_true, cond_false, a3, a3']
      · unfold fin4
        rw [g70E m t1 t2 t3 t4 (fun b => cond b (k 0 0 0 0 3) (k y1 y2 y3 y4 0))]
        cases decide (y4 ≤ (y3.natAbs : Int)) <;> cases fitsM y1 y2 y3 y4 <;> rfl
      · unfold fin4
        rw [g70E m (sm_neg t1) (sm_neg t2) (sm_neg t3) (sm_neg t4) (fun b => cond b (k 0 0 0 0 3) (k (-y1) (-y2) (-y3) (-y4) 0))]
        cases decide (-y4 ≤ ((-y3).natAbs : Int)) <;> cases fitsM (-y1) (-y2) (-y3) (-y4) <;> rfl
theorem g32E {α : Type} (m : Nat) (a b c d : Int) (k : Bool → Option α) : g32 m a b c d a b c d k = k true := by
  simp only [g32, g32b, bne_self_eq_false, cond_false]
theorem law8 (m : Nat) (hm : FU ≤ m) (a b c d p q r s : Int) {α : Type} (k : Bool → Option α) : g8 m a b c d p q r s k = k true := by
  have hm6 : 6 ≤ m := Nat.le_trans fu6 hm
  simp only [g8, g8b, g18, g18b]
  cases h1 : mOk a b c d
  · have e : ∀ k : Int → Int → Int → Int → Int → Option α, g31 m a b c d p q r s k = k 0 0 0 0 1 := fun k => by simp only [g31, g31b, g19E m hm6, h1]; rfl
    have e' : ∀ k : Int → Int → Int → Int → Int → Option α, g30 m a b c d p q r s k = k 0 0 0 0 1 := fun k => by simp only [g30, g30b, g57E, h1]; rfl
    simp only [e, e', g32E, Bool.not_true, cond_false, bne_self_eq_false]
  · cases h2 : mOk p q r s
    · have e : ∀ k : Int → Int → Int → Int → Int → Option α, g31 m a b c d p q r s k = k 0 0 0 0 1 := fun k => by simp only [g31, g31b, g19E m hm6, h1, h2]; rfl
      have e' : ∀ k : Int → Int → Int → Int → Int → Option α, g30 m a b c d p q r s k = k 0 0 0 0 1 := fun k => by simp only [g30, g30b, g57E, h1, h2]; rfl
      simp only [e, e', g32E, Bool.not_true, cond_false, bne_self_eq_false]
    · obtain ⟨R, e1, e2⟩ := g30E m hm a b c d p q r s _ h1 h2
      rw [e1]
      simp only [e2, g32E, Bool.not_true, cond_false, bne_self_eq_false]
theorem law8' (ls : List Lf) (hw : WT g8tp ls) : g8K (g8 2000000000000000000) ls (fun v _ _ => saysTrue v) = some () := law8 FU (Nat.le_refl _) _ _ _ _ _ _ _ _ _
end Go.Proofs.Ytbpljilgekneoaa.Sx
