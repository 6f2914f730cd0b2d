/- Plain laws of ratios: the greatest common divisor, valid ratios, ratios made. Our own work. -/
import Derived.Test.YtbpljilgekneoaaSxV
import Derived.Test.YtbpljilgekneoaaSxQ
namespace Go.Proofs.Ytbpljilgekneoaa.Sx
open Go
set_option linter.unusedVariables false
set_option linter.unusedSimpArgs false
set_option maxRecDepth 100000
theorem wrapI64 {x : Int} (h0 : -9223372036854775808 ≤ x) (h1 : x ≤ 9223372036854775807) : IntKind.wrap .i64 x = x := by
  unfold IntKind.wrap; simp only [IntKind.signed, IntKind.bits]; simp; omega
/-- the greatest common divisor -/
def gG (p q : Int) : Int := ((Nat.gcd p.natAbs q.natAbs : Nat) : Int)
abbrev Big : Int := 1000000000000000000
def Sm (p : Int) : Prop := -Big ≤ p ∧ p ≤ Big
abbrev FU : Nat := 2000000000000000000
theorem sm_nat {p : Int} (h : Sm p) : p.natAbs ≤ 1000000000000000000 := by
  obtain ⟨h1, h2⟩ := h
  unfold Big at *
  omega
theorem euclid {α : Type} {L : Nat → Int → Int → Option α} {k : Int → Option α} (hL : ∀ m a b, L (m + 1) a b = cond (b != 0) (if b = 0 then none else L m b (Int.tmod a b)) (k a)) :
    ∀ (n m a b : Nat), b ≤ n → n < m → L m (a : Int) (b : Int) = k ((Nat.gcd a b : Nat) : Int) := by
  intro n
  induction n with
  | zero =>
    intro m a b hb hm
    obtain rfl : b = 0 := by omega
    obtain ⟨m, rfl⟩ : ∃ j, m = j + 1 := ⟨m - 1, by omega⟩
    rw [hL, Nat.gcd_zero_right]; rfl
  | succ n ih =>
    intro m a b hb hm
    obtain ⟨m, rfl⟩ : ∃ j, m = j + 1 := ⟨m - 1, by omega⟩
    rw [hL]
    by_cases h0 : b = 0
    · subst h0; rw [Nat.gcd_zero_right]; rfl
    · rw [show ((b : Int) != 0) = true by simpa using h0, if_neg (by omega), ← Int.ofNat_tmod]
      have hlt : a % b < b := Nat.mod_lt _ (by omega)
      simp only [cond_true]
      rw [ih m b (a % b) (by omega) (by omega)]
      congr 2
      rw [Nat.gcd_comm a b, Nat.gcd_rec b a, Nat.gcd_comm]
theorem absMax {p : Int} (h : Sm p) : imax p (IntKind.wrap .i64 (0 - p)) = (p.natAbs : Int) := by
  obtain ⟨h1, h2⟩ := h
  unfold Big at *
  rw [wrapI64 (by omega) (by omega)]
  unfold imax
  split <;> omega
theorem g67E {α : Type} (m : Nat) {p : Int} (h : Sm p) (k : Int → Option α) : g67 m p k = k (p.natAbs : Int) := by
  obtain ⟨h1, h2⟩ := h
  unfold Big at *
  unfold g67 g67b
  by_cases hp : p < 0
  · rw [decide_eq_true hp, wrapI64 (by omega) (by omega), show 0 - p = (p.natAbs : Int) by omega]; rfl
  · rw [decide_eq_false hp]
    show k p = _
    congr 1; omega
theorem g85E {α : Type} (m : Nat) (hm : FU ≤ m) {p q : Int} (hp : Sm p) (hq : Sm q) (k : Int → Option α) : g85 m p q k = k (gG p q) := by
  simp only [g85, g85b, g67E m hp, g67E m hq]
  have hq' := sm_nat hq
  exact euclid (L := fun m a b => g85l0 (fun x => k x) m a b) (fun m a b => rfl) q.natAbs m p.natAbs q.natAbs (Nat.le_refl _) (by unfold FU at hm; omega)
theorem g60E2 {α : Type} (m : Nat) (hm : FU ≤ m) {p q : Int} (hp : Sm p) (hq : Sm q) (k : Int → Option α) : g60 m 0 2 2 [p, q] k = k (gG p q) := by
  have hp' := sm_nat hp
  have hq' := sm_nat hq
  obtain ⟨j, rfl⟩ : ∃ j, m = j + 3 := ⟨m - 3, by unfold FU at hm; omega⟩
  unfold FU at hm
  have e1 : g60 (j + 3) 0 2 2 [p, q] k = g60l2 0 2 2 2 0 [p, q] (fun x => g60l0 (g60l2M (j + 3)) 0 2 2 2 [p, q] (fun x => k x) (j + 2) x 1) (j + 3) 0 (imax p (IntKind.wrap .i64 (0 - p))) := by kernel_rfl
  have e2 : ∀ x, g60l0 (g60l2M (j + 3)) 0 2 2 2 [p, q] (fun x => k x) (j + 2) x 1 = g60l2 0 2 2 2 1 [p, q] (fun x => g60l0 (g60l2M (j + 3)) 0 2 2 2 [p, q] (fun x => k x) (j + 1) x 2) (j + 3) x (imax q (IntKind.wrap .i64 (0 - q))) := by intro x; kernel_rfl
  have e3 : ∀ x, g60l0 (g60l2M (j + 3)) 0 2 2 2 [p, q] (fun x => k x) (j + 1) x 2 = k x := by intro x; kernel_rfl
  rw [e1, absMax hp, show (0 : Int) = ((0 : Nat) : Int) from rfl]
  rw [euclid (L := fun m a b => g60l2 0 2 2 2 ((0 : Nat) : Int) [p, q] (fun x => g60l0 (g60l2M (j + 3)) 0 2 2 2 [p, q] (fun x => k x) (j + 2) x 1) m a b) (fun m a b => rfl) p.natAbs (j + 3) 0 p.natAbs (Nat.le_refl _) (by omega)]
  rw [Nat.gcd_zero_left, e2, absMax hq]
  rw [euclid (L := fun m a b => g60l2 0 2 2 2 1 [p, q] (fun x => g60l0 (g60l2M (j + 3)) 0 2 2 2 [p, q] (fun x => k x) (j + 1) x 2) m a b) (fun m a b => rfl) q.natAbs (j + 3) p.natAbs q.natAbs (Nat.le_refl _) (by omega)]
  rw [e3]; rfl
def inR (x lo hi : Int) : Bool := decide (x ≥ lo) && decide (x ≤ hi)
theorem inR_iff {x lo hi : Int} : inR x lo hi = true ↔ lo ≤ x ∧ x ≤ hi := by simp [inR]
theorem g63E {α : Type} (m : Nat) (x lo hi : Int) (k : Bool → Option α) : g63 m x lo hi k = k (inR x lo hi) := by
  unfold g63 g63b inR
  cases decide (x ≥ lo) <;> rfl
theorem g58E {α : Type} (m : Nat) (x lo hi : Int) (k : Bool → Option α) : g58 m x lo hi k = k (inR x lo hi) := by
  unfold g58 g58b inR
  cases decide (x ≥ lo) <;> rfl
/-- a ratio that is in lowest terms and in its range -/
def rOk (p q : Int) : Bool := inR q 1 2147483648 && (inR p (-2147483648) 2147483648 && (gG p q == 1))
theorem sm_of {p lo hi : Int} (h : inR p lo hi = true) (h1 : -Big ≤ lo) (h2 : hi ≤ Big) : Sm p := by
  rw [inR_iff] at h
  exact ⟨by omega, by omega⟩
theorem g59E {α : Type} (m : Nat) (hm : FU ≤ m) (p q : Int) (k : Bool → Option α) : g59 m p q k = k (rOk p q) := by
  simp only [g59, g59b, g63E]
  unfold rOk
  cases h1 : inR q 1 2147483648
  · rfl
  · cases h2 : inR p (-2147483648) 2147483648
    · rfl
    · simp only [cond_true]
      rw [g85E m hm (sm_of h2 (by decide) (by decide)) (sm_of h1 (by decide) (by decide))]; rfl
theorem g22E {α : Type} (m : Nat) (hm : FU ≤ m) (p q : Int) (k : Bool → Option α) : g22 m p q k = k (rOk p q) := by
  simp only [g22, g22b, g58E]
  unfold rOk
  cases h1 : inR q 1 2147483648
  · rfl
  · cases h2 : inR p (-2147483648) 2147483648
    · rfl
    · simp only [cond_true]
      rw [g60E2 m hm (sm_of h2 (by decide) (by decide)) (sm_of h1 (by decide) (by decide))]; rfl
theorem law4 (p q : Int) {α : Type} (k : Bool → Option α) : g4 FU p q k = k true := by
  simp only [g4, g4b, g21, g21b, g20, g20b, g59E FU (Nat.le_refl _), g22E FU (Nat.le_refl _), beq_self_eq_true, Bool.not_true, cond_false]
theorem law4' (ls : List Lf) (hw : WT g4tp ls) : g4K (g4 2000000000000000000) ls (fun v _ _ => saysTrue v) = some () := law4 _ _ _
/-- the order of two ratios -/
def ordI (a b : Int) : Int := cond (decide (a < b)) (-1) (cond (decide (a > b)) 1 0)
theorem g61E {α : Type} (m : Nat) (a b c d : Int) (k : Int → Option α) : g61 m a b c d k = k (ordI (IntKind.wrap .i64 (a * d)) (IntKind.wrap .i64 (c * b))) := by
  simp only [g61, g61b, ordI]
  cases decide (IntKind.wrap .i64 (a * d) < IntKind.wrap .i64 (c * b)) <;> cases decide (IntKind.wrap .i64 (a * d) > IntKind.wrap .i64 (c * b)) <;> rfl
theorem g62E {α : Type} (m : Nat) (a b : Int) (k : Int → Option α) : g62 m a b k = k (ordI a b) := by
  unfold g62 g62b ordI
  cases decide (a < b) <;> cases decide (a > b) <;> rfl
theorem law5 (p q p' q' : Int) {α : Type} (k : Bool → Option α) : g5 FU p q p' q' k = k true := by
  simp only [g5, g5b, g21, g21b, g23, g23b, g24, g24b, g59E FU (Nat.le_refl _), g22E FU (Nat.le_refl _), g61E, g62E]
  cases rOk p q <;> cases rOk p' q' <;> simp only [cond_true, cond_false, Bool.not_true, Bool.not_false, bne_self_eq_false]
theorem law5' (ls : List Lf) (hw : WT g5tp ls) : g5K (g5 2000000000000000000) ls (fun v _ _ => saysTrue v) = some () := law5 _ _ _ _ _
theorem gG_neg (p q : Int) : gG (-p) (-q) = gG p q := by unfold gG; simp
theorem gG_pos {p q : Int} (h : q ≠ 0) : 0 < gG p q := by
  unfold gG
  have : 0 < Nat.gcd p.natAbs q.natAbs := Nat.gcd_pos_of_pos_right _ (by omega)
  omega
/-- the ratio of two numbers, the second of which is not 0 -/
def mkR (p q : Int) : Int × Int × Int :=
  cond (rOk (Int.tdiv p (cond (decide (q < 0)) (-(gG p q)) (gG p q))) (Int.tdiv q (cond (decide (q < 0)) (-(gG p q)) (gG p q))))
    (Int.tdiv p (cond (decide (q < 0)) (-(gG p q)) (gG p q)), Int.tdiv q (cond (decide (q < 0)) (-(gG p q)) (gG p q)), 0) (0, 0, 3)
theorem tdiv_le {p g : Int} (hp : Sm p) (hg : g ≠ 0) : Sm (Int.tdiv p g) := by
  obtain ⟨h1, h2⟩ := hp
  unfold Sm Big at *
  have h3 : (Int.tdiv p g).natAbs ≤ p.natAbs := by rw [Int.natAbs_tdiv]; exact Nat.div_le_self _ _
  omega
theorem wrap_sm {x : Int} (h : Sm x) : IntKind.wrap .i64 x = x := by
  obtain ⟨h1, h2⟩ := h
  unfold Big at *
  exact wrapI64 (by omega) (by omega)
theorem gG_le {p q : Int} (hp : Sm p) (hq : Sm q) (h : q ≠ 0) : Sm (gG p q) := by
  have h1 : Nat.gcd p.natAbs q.natAbs ≤ q.natAbs := Nat.gcd_le_right _ (by omega)
  have h2 := sm_nat hq
  unfold Sm Big gG
  omega
theorem sm_neg {p : Int} (h : Sm p) : Sm (-p) := by
  obtain ⟨h1, h2⟩ := h
  unfold Sm Big at *
  omega
theorem g64E {α : Type} (m : Nat) (hm : FU ≤ m) {p q : Int} (hp : Sm p) (hq : Sm q) (h0 : q ≠ 0) (k : Int → Int → Int → Option α) :
    g64 m p q k = k (mkR p q).1 (mkR p q).2.1 (mkR p q).2.2 := by
  have hg := gG_pos (p := p) h0
  simp only [g64, g64b, g85E m hm hp hq, g59E m hm, show (0 : Int) - gG p q = -(gG p q) by omega, wrap_sm (sm_neg (gG_le hp hq h0))]
  unfold mkR
  cases decide (q < 0) <;> simp only [cond_true, cond_false]
  · rw [if_neg (by omega), wrap_sm (tdiv_le hp (by omega)), wrap_sm (tdiv_le hq (by omega))]
    cases rOk (p.tdiv (gG p q)) (q.tdiv (gG p q)) <;> simp only [cond_true, cond_false, Bool.not_true, Bool.not_false]
    · rw [if_neg (by omega)]
    · rw [if_neg (by omega)]
  · rw [if_neg (by omega), wrap_sm (tdiv_le hp (by omega)), wrap_sm (tdiv_le hq (by omega))]
    cases rOk (p.tdiv (-(gG p q))) (q.tdiv (-(gG p q))) <;> simp only [cond_true, cond_false, Bool.not_true, Bool.not_false]
    · rw [if_neg (by omega)]
    · rw [if_neg (by omega)]
/-- MakeRatio -/
def mkA (p q : Int) : Int × Int × Int :=
  cond (inR p (-1000000000000000000) 1000000000000000000) (cond (inR q (-1000000000000000000) 1000000000000000000) (cond (q == 0) (0, 0, 4) (mkR p q)) (0, 0, 3)) (0, 0, 3)
theorem g25E {α : Type} (m : Nat) (hm : FU ≤ m) (p q : Int) (k : Int → Int → Int → Option α) : g25 m p q k = k (mkA p q).1 (mkA p q).2.1 (mkA p q).2.2 := by
  simp only [g25, g25b, g63E]
  unfold mkA
  cases h1 : inR p (-1000000000000000000) 1000000000000000000
  · rfl
  · cases h2 : inR q (-1000000000000000000) 1000000000000000000
    · rfl
    · cases h3 : (q == 0)
      · simp only [cond_true, cond_false, Bool.not_true]
        exact g64E m hm (sm_of h1 (by decide) (by decide)) (sm_of h2 (by decide) (by decide)) (by simpa using h3) k
      · rfl
theorem g26E {α : Type} (m : Nat) (hm : FU ≤ m) (p q : Int) (k : Int → Int → Int → Option α) : g26 m p q k = k (mkA p q).1 (mkA p q).2.1 (mkA p q).2.2 := by
  simp only [g26, g26b, g58E]
  unfold mkA
  cases h1 : inR p (-1000000000000000000) 1000000000000000000
  · rfl
  · cases h2 : inR q (-1000000000000000000) 1000000000000000000
    · rfl
    · cases h3 : (q == 0)
      · simp only [cond_true, cond_false, Bool.not_true]
        have hp := sm_of h1 (by decide) (by decide)
        have hq := sm_of h2 (by decide) (by decide)
        have h0 : q ≠ 0 := by simpa using h3
        have hg := gG_pos (p := p) h0
        rw [show (0 : Int) - p = -p by omega, show (0 : Int) - q = -q by omega, wrap_sm (sm_neg hp), wrap_sm (sm_neg hq)]
        simp only [g60E2 m hm hp hq, g60E2 m hm (sm_neg hp) (sm_neg hq), gG_neg, g22E m hm]
        unfold mkR
        cases decide (q < 0) <;> simp only [cond_true, cond_false]
        · rw [if_neg (by omega), wrap_sm (tdiv_le hp (by omega)), wrap_sm (tdiv_le hq (by omega))]
          cases rOk (p.tdiv (gG p q)) (q.tdiv (gG p q)) <;> simp only [cond_true, cond_false, Bool.not_true, Bool.not_false]
          · rw [if_neg (by omega)]
          · rw [if_neg (by omega)]
        · rw [Int.neg_tdiv, Int.neg_tdiv, ← Int.tdiv_neg, ← Int.tdiv_neg, if_neg (by omega), wrap_sm (tdiv_le hp (by omega)), wrap_sm (tdiv_le hq (by omega))]
          cases rOk (p.tdiv (-(gG p q))) (q.tdiv (-(gG p q))) <;> simp only [cond_true, cond_false, Bool.not_true, Bool.not_false]
          · rw [if_neg (by omega)]
          · rw [if_neg (by omega)]
      · rfl
theorem g27E {α : Type} (m : Nat) (p q : Int) (k : Bool → Option α) : g27 m p q p q k = k true := by
  simp only [g27, g27b, bne_self_eq_false, cond_false]
theorem law6 (p q : Int) {α : Type} (k : Bool → Option α) : g6 FU p q k = k true := by
  simp only [g6, g6b, g25E FU (Nat.le_refl _), g26E FU (Nat.le_refl _), g27E, bne_self_eq_false, cond_false, Bool.not_true]
theorem law6' (ls : List Lf) (hw : WT g6tp ls) : g6K (g6 2000000000000000000) ls (fun v _ _ => saysTrue v) = some () := law6 _ _ _
end Go.Proofs.Ytbpljilgekneoaa.Sx
