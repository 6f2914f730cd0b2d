/- Plain laws: CommonWide, DivWides, DivNear. Our own work. -/
import Derived.Test.YtcccndkeaichcaaPureZ
import Derived.Test.YtcccndkeaichcaaPureT
namespace Go.Proofs.Ytcccndkeaichcaa.Sx
open Go
set_option linter.unusedVariables false
set_option linter.unusedSimpArgs false
set_option maxRecDepth 100000
section
variable {α : Type} {m : Nat} {a b : Nat}
theorem g107M (hm : 10 ≤ m) (ha : a < W192) (hb0 : 0 < b) (hb : b < W192) (k : List Int → List Int → Option α) : g107 m (limbs 6 a) (limbs 6 b) k = k (limbs 6 (a / b)) (limbs 6 (a % b)) := by
  obtain ⟨n, rfl⟩ : ∃ n, m = n + 3 + 7 := ⟨m - 10, by omega⟩
  exact g107L n ha hb0 hb k
theorem g102M (hm : 240 ≤ m) (ha : a < W192) (hb0 : 0 < b) (hb : b < W192) (k : List Int → List Int → Option α) : g102 m (limbs 6 a) (limbs 6 b) k = k (limbs 6 (a / b)) (limbs 6 (a % b)) := by
  obtain ⟨n, rfl⟩ : ∃ n, m = n + 40 := ⟨m - 40, by omega⟩
  exact g102L n (by omega) ha hb0 hb k
theorem g112M (hm : 7 ≤ m) (ha : a < W192) (hb : b < W192) (k : List Int → Bool → Option α) : g112 m (limbs 6 a) (limbs 6 b) k = k (limbs 6 (a + b)) (decide (a + b < W192)) := by
  obtain ⟨n, rfl⟩ : ∃ n, m = n + 7 := ⟨m - 7, by omega⟩
  exact g112L n ha hb k
theorem g108M (hm : 7 ≤ m) (ha : a < W192) (hb : b < W192) (k : List Int → Bool → Option α) : g108 m (limbs 6 a) (limbs 6 b) k = k (limbs 6 (a + b)) (!(decide (a + b < W192))) := by
  obtain ⟨n, rfl⟩ : ∃ n, m = n + 7 := ⟨m - 7, by omega⟩
  exact g108L n ha hb k
theorem g113M (hm : 7 ≤ m) (h : b ≤ a) (k : List Int → Option α) : g113 m (limbs 6 a) (limbs 6 b) k = k (limbs 6 (a - b)) := by
  obtain ⟨n, rfl⟩ : ∃ n, m = n + 7 := ⟨m - 7, by omega⟩
  exact g113L n h k
theorem g110M (hm : 7 ≤ m) (h : b ≤ a) (k : List Int → Option α) : g110 m (limbs 6 a) (limbs 6 b) k = k (limbs 6 (a - b)) := by
  obtain ⟨n, rfl⟩ : ∃ n, m = n + 7 := ⟨m - 7, by omega⟩
  exact g110L n h k
theorem g115M (hm : 7 ≤ m) (ha : a < W192) (hb : b < W192) (k : Int → Option α) : g115 m (limbs 6 a) (limbs 6 b) k = k (cmpN a b) := by
  obtain ⟨n, rfl⟩ : ∃ n, m = n + 7 := ⟨m - 7, by omega⟩
  exact g115L n ha hb k
theorem g111M (hm : 7 ≤ m) (ha : a < W192) (hb : b < W192) (k : Int → Option α) : g111 m (limbs 6 a) (limbs 6 b) k = k (cmpN a b) := by
  obtain ⟨n, rfl⟩ : ∃ n, m = n + 7 := ⟨m - 7, by omega⟩
  exact g111L n ha hb k
theorem g23M (hm : 7 ≤ m) (q : Bool) (k : List Int → Option α) : g23 m q (limbs 6 a) k = k (limbs 6 a) := by
  obtain ⟨n, rfl⟩ : ∃ n, m = n + 7 := ⟨m - 7, by omega⟩
  exact g23L n q k
theorem g27M (hm : 7 ≤ m) (q : Bool) (k : Bool → Option α) : g27 m q (limbs 6 a) q (limbs 6 a) k = k true := by
  obtain ⟨n, rfl⟩ : ∃ n, m = n + 7 := ⟨m - 7, by omega⟩
  exact g27L n q k
end
/-! ### The greatest common divisor -/
theorem g60loop {α : Type} (m : Nat) (hm : 240 ≤ m) (c : Bool) (z : List Int) (k : List Int → Option α) : ∀ (n f a b : Nat), b ≤ n → n < f → a < W192 → b < W192 → g60l0 (g101 m) (g102 m) c z k f (limbs 6 a) (limbs 6 b) = k (limbs 6 (Nat.gcd a b)) := by
  intro n
  induction n with
  | zero =>
    intro f a b hn hf ha hb
    obtain rfl : b = 0 := by omega
    obtain ⟨f, rfl⟩ : ∃ j, f = j + 1 := ⟨f - 1, by omega⟩
    simp only [g60l0, g60l0b]
    rw [g101L m hb, Nat.gcd_zero_right]; rfl
  | succ n ih =>
    intro f a b hn hf ha hb
    obtain ⟨f, rfl⟩ : ∃ j, f = j + 1 := ⟨f - 1, by omega⟩
    simp only [g60l0, g60l0b]
    rw [g101L m hb]
    by_cases h0 : b = 0
    · subst h0; rw [Nat.gcd_zero_right]; rfl
    · have hlt : a % b < b := Nat.mod_lt _ (by omega)
      rw [decide_eq_false h0, Bool.not_false, cond_true, g102M hm ha (by omega) hb, ih f b (a % b) (by omega) (by omega) hb (Nat.lt_trans hlt hb), Nat.gcd_comm a b, Nat.gcd_rec b a, Nat.gcd_comm]
theorem g90loop {α : Type} (m : Nat) (hm : 240 ≤ m) (z : List Int) (k : List Int → Option α) : ∀ (n f a b : Nat), b ≤ n → n < f → a < W192 → b < W192 → g90l0 (g107 m) z k f (limbs 6 a) (limbs 6 b) = k (limbs 6 (Nat.gcd a b)) := by
  intro n
  induction n with
  | zero =>
    intro f a b hn hf ha hb
    obtain rfl : b = 0 := by omega
    obtain ⟨f, rfl⟩ : ∃ j, f = j + 1 := ⟨f - 1, by omega⟩
    simp only [g90l0, g90l0b]
    rw [eqLI_zero hb, Nat.gcd_zero_right]; rfl
  | succ n ih =>
    intro f a b hn hf ha hb
    obtain ⟨f, rfl⟩ : ∃ j, f = j + 1 := ⟨f - 1, by omega⟩
    simp only [g90l0, g90l0b]
    rw [eqLI_zero hb]
    by_cases h0 : b = 0
    · subst h0; rw [Nat.gcd_zero_right]; rfl
    · have hlt : a % b < b := Nat.mod_lt _ (by omega)
      rw [decide_eq_false h0, Bool.not_false, cond_true, g107M (by omega) ha (by omega) hb, ih f b (a % b) (by omega) (by omega) hb (Nat.lt_trans hlt hb), Nat.gcd_comm a b, Nat.gcd_rec b a, Nat.gcd_comm]
theorem g60U {α : Type} (m : Nat) (s : Bool) (la : List Int) (t : Bool) (lb : List Int) (k : Bool → List Int → Int → Option α) : g60 m s la t lb k = g64 m s la (fun v => cond (!v) (k false [0, 0, 0, 0, 0, 0] 1) (g64 m t lb (fun w => cond (!w) (k false [0, 0, 0, 0, 0, 0] 1)
    (g60l0 (g101 m) (g102 m) false [0, 0, 0, 0, 0, 0] (fun l => g71 m false l (fun b => k b l 0)) m la lb)))) := by kernel_rfl
theorem g46U {α : Type} (m : Nat) (s : Bool) (la : List Int) (t : Bool) (lb : List Int) (k : Bool → List Int → Int → Option α) : g46 m s la t lb k = g24 m s la (fun v => cond (!v) (k false [0, 0, 0, 0, 0, 0] 1) (g24 m t lb (fun w => cond (!w) (k false [0, 0, 0, 0, 0, 0] 1)
    (g90l0 (g107 m) [0, 0, 0, 0, 0, 0] (fun l => g67 m false l (fun b => k b l 0)) m la lb)))) := by kernel_rfl
theorem g17U {α : Type} (m : Nat) (s : Bool) (la : List Int) (t : Bool) (lb : List Int) (k : Bool → Option α) : g17 m s la t lb k = g23 m s la (fun a1 => g23 m t lb (fun b1 => g60 m s a1 t b1 (fun c l x => g23 m s la (fun a2 => g23 m t lb (fun b2 => g46 m s a2 t b2 (fun c' l' x' =>
    g27 m c' l' c l (fun b => cond (!b) (k false) (cond (x' != x) (k false) (k true)))))))) ) := by kernel_rfl
theorem common_res (m : Nat) (hm : W192 + 240 ≤ m) (s t : Bool) {a b : Nat} (ha : a < W192) (hb : b < W192) : ∃ c v x, (∀ {α : Type} (k : Bool → List Int → Int → Option α), g60 m s (limbs 6 a) t (limbs 6 b) k = k c (limbs 6 v) x) ∧ (∀ {α : Type} (k : Bool → List Int → Int → Option α), g46 m s (limbs 6 a) t (limbs 6 b) k = k c (limbs 6 v) x) := by
  have hm2 : 240 ≤ m := Nat.le_trans (Nat.le_add_left _ _) hm
  have hfm : b < m := Nat.lt_of_lt_of_le (Nat.lt_of_lt_of_le hb (Nat.le_add_right _ _)) hm
  cases hv : (!(s && decide (a = 0)))
  · exact ⟨false, 0, 1, fun k => by rw [g60U, g64L m s ha, hv]; rfl, fun k => by rw [g46U, g24L m s ha, hv]; rfl⟩
  · cases hw : (!(t && decide (b = 0)))
    · exact ⟨false, 0, 1, fun k => by rw [g60U, g64L m s ha, hv, g64L m t hb, hw]; rfl, fun k => by rw [g46U, g24L m s ha, hv, g24L m t hb, hw]; rfl⟩
    · refine ⟨false, Nat.gcd a b, 0, fun k => ?_, fun k => ?_⟩
      · rw [g60U, g64L m s ha, hv, Bool.not_true, cond_false, g64L m t hb, hw, Bool.not_true, cond_false, g60loop m hm2 false _ _ b m a b (Nat.le_refl _) hfm ha hb, g71FF]
      · rw [g46U, g24L m s ha, hv, Bool.not_true, cond_false, g24L m t hb, hw, Bool.not_true, cond_false, g90loop m hm2 _ _ b m a b (Nat.le_refl _) hfm ha hb, g67FF]
theorem law17 (m : Nat) (hm : W192 + 240 ≤ m) (s t : Bool) {a b : Nat} (ha : a < W192) (hb : b < W192) {α : Type} (k : Bool → Option α) : g17 m s (limbs 6 a) t (limbs 6 b) k = k true := by
  have hm7 : 7 ≤ m := Nat.le_trans (Nat.le_trans (by decide) (Nat.le_add_left 240 _)) hm
  obtain ⟨c, v, x, h1, h2⟩ := common_res m hm s t ha hb
  rw [g17U, g23M hm7, g23M hm7, h1, g23M hm7, g23M hm7, h2, g27M hm7, Bool.not_true, cond_false, bne_self_eq_false, cond_false]
theorem law17' (ls : List Lf) (hw : WT g17tp ls) : g17K (g17 6277101735386680763835789423207666416102355444464034513136) ls (fun v _ _ => saysTrue v) = some () := by
  obtain ⟨a, ha, e1⟩ := limbs_ex hw.1.2.1.1 hw.1.2.1.2
  obtain ⟨b, hb, e2⟩ := limbs_ex hw.2.1.2.1.1 hw.2.1.2.1.2
  have := law17 6277101735386680763835789423207666416102355444464034513136 (by decide) (lf ls 0).bool (lf ls 2).bool ha hb (fun b => saysTrue (.vl (.sv (.bool b))))
  rw [← e1, ← e2] at this
  exact this
/-! ### Quotients -/
def ups (s t : Bool) (a b : Nat) : Bool := (!(s == t)) && !(decide (a % b = 0))
def dQ (s t : Bool) (a b : Nat) : Nat := cond (ups s t a b) (a / b + 1) (a / b)
def dR (s t : Bool) (a b : Nat) : Nat := cond (ups s t a b) (b - a % b) (a % b)
theorem dQ_lt {s t : Bool} {a b : Nat} (ha : a < W192) (hb0 : 0 < b) : dQ s t a b < W192 ∧ (2 ≤ b → dQ s t a b + 1 < W192) := by
  have ha' : a < 6277101735386680763835789423207666416102355444464034512896 := ha
  have hW : (W192 : Nat) = 6277101735386680763835789423207666416102355444464034512896 := rfl
  have h2 : 2 ≤ b → a / b ≤ a / 2 := fun h => Nat.div_le_div_left h (by decide)
  have h1 : a / b ≤ a := Nat.div_le_self _ _
  unfold dQ
  by_cases hb1 : b = 1
  · subst hb1
    have : ups s t a 1 = false := by unfold ups; simp [Nat.mod_one]
    rw [this, cond_false]
    exact ⟨by omega, fun h => by omega⟩
  · have := h2 (by omega)
    cases ups s t a b <;> simp only [cond_true, cond_false] <;> exact ⟨by omega, fun _ => by omega⟩
theorem dR_lt {s t : Bool} {a b : Nat} (hb0 : 0 < b) (hb : b < W192) : dR s t a b < W192 ∧ dR s t a b ≤ b := by
  have hr : a % b < b := Nat.mod_lt _ hb0
  unfold dR
  cases ups s t a b <;> simp only [cond_true, cond_false] <;> exact ⟨by omega, by omega⟩
theorem g77U {α : Type} (m : Nat) (s : Bool) (la : List Int) (t : Bool) (lb : List Int) (k : Bool → List Int → Bool → List Int → Option α) : g77 m s la t lb k = g102 m la lb (fun q r => cond (!(s == t)) (g101 m r (fun z => cond (!z)
    (g112 m q [1, 0, 0, 0, 0, 0] (fun q1 _ => g113 m lb r (fun r1 => g71 m (!(s == t)) q1 (fun x => g71 m t r1 (fun y => k x q1 y r1))))) (g71 m (!(s == t)) q (fun x => g71 m t r (fun y => k x q y r))))) (g71 m (!(s == t)) q (fun x => g71 m t r (fun y => k x q y r)))) := by kernel_rfl
theorem g73U {α : Type} (m : Nat) (s : Bool) (la : List Int) (t : Bool) (lb : List Int) (k : Bool → List Int → Bool → List Int → Option α) : g73 m s la t lb k = g107 m la lb (fun q r => cond (!(s == t)) (cond (!(eqLI r [0, 0, 0, 0, 0, 0]))
    (g109 m (fun one => g108 m q one (fun q1 _ => g110 m lb r (fun r1 => g67 m (!(s == t)) q1 (fun x => g67 m t r1 (fun y => k x q1 y r1)))))) (g67 m (!(s == t)) q (fun x => g67 m t r (fun y => k x q y r)))) (g67 m (!(s == t)) q (fun x => g67 m t r (fun y => k x q y r)))) := by kernel_rfl
theorem g77L {α : Type} (m : Nat) (hm : 240 ≤ m) (s t : Bool) {a b : Nat} (ha : a < W192) (hb0 : 0 < b) (hb : b < W192) (k : Bool → List Int → Bool → List Int → Option α) : g77 m s (limbs 6 a) t (limbs 6 b) k =
    k ((!(s == t)) && !(decide (dQ s t a b = 0))) (limbs 6 (dQ s t a b)) (t && !(decide (dR s t a b = 0))) (limbs 6 (dR s t a b)) := by
  have hr : a % b < b := Nat.mod_lt _ hb0
  have hrW : a % b < W192 := Nat.lt_trans hr hb
  have hqW : a / b < W192 := Nat.lt_of_le_of_lt (Nat.div_le_self _ _) ha
  have hQ := (dQ_lt (s := s) (t := t) ha hb0).1
  have hR := (dR_lt (s := s) (t := t) (a := a) hb0 hb).1
  rw [g77U, g102M hm ha hb0 hb, g101L m hrW]
  unfold dQ dR ups at *
  cases hst : (!(s == t))
  · simp only [Bool.false_and, cond_false]
    rw [g71L m _ hqW, g71L m t hrW, Bool.false_and]
  · simp only [Bool.true_and, cond_true]
    cases hz : decide (a % b = 0)
    · rw [hst, hz] at hQ hR
      simp only [Bool.not_false, Bool.and_true, Bool.true_and, cond_true] at hQ hR ⊢
      rw [show ([1, 0, 0, 0, 0, 0] : List Int) = limbs 6 1 from rfl, g112M (by omega) hqW (by decide), g113M (by omega) (by omega), g71L m _ hQ, g71L m t hR, Bool.true_and]
    · simp only [Bool.not_true, cond_false]
      rw [g71L m _ hqW, g71L m t hrW, Bool.true_and]
theorem g73L {α : Type} (m : Nat) (hm : 240 ≤ m) (s t : Bool) {a b : Nat} (ha : a < W192) (hb0 : 0 < b) (hb : b < W192) (k : Bool → List Int → Bool → List Int → Option α) : g73 m s (limbs 6 a) t (limbs 6 b) k =
    k ((!(s == t)) && !(decide (dQ s t a b = 0))) (limbs 6 (dQ s t a b)) (t && !(decide (dR s t a b = 0))) (limbs 6 (dR s t a b)) := by
  have hr : a % b < b := Nat.mod_lt _ hb0
  have hrW : a % b < W192 := Nat.lt_trans hr hb
  have hqW : a / b < W192 := Nat.lt_of_le_of_lt (Nat.div_le_self _ _) ha
  have hQ := (dQ_lt (s := s) (t := t) ha hb0).1
  have hR := (dR_lt (s := s) (t := t) (a := a) hb0 hb).1
  rw [g73U, g107M (by omega) ha hb0 hb, eqLI_zero hrW]
  unfold dQ dR ups at *
  cases hst : (!(s == t))
  · simp only [Bool.false_and, cond_false]
    rw [g67L m _ hqW, g67L m t hrW, Bool.false_and]
  · simp only [Bool.true_and, cond_true]
    cases hz : decide (a % b = 0)
    · rw [hst, hz] at hQ hR
      simp only [Bool.not_false, Bool.and_true, Bool.true_and, cond_true] at hQ hR ⊢
      rw [g109L, g108M (by omega) hqW (by decide), g110M (by omega) (by omega), g67L m _ hQ, g67L m t hR, Bool.true_and]
    · simp only [Bool.not_true, cond_false]
      rw [g67L m _ hqW, g67L m t hrW, Bool.true_and]
theorem g76L {α : Type} (m : Nat) (t : Bool) {b : Nat} (hb : b < W192) (k : Int → Option α) : g76 m t (limbs 6 b) k = k (cond t (-1) (cond (decide (b = 0)) 0 1)) := by
  simp only [g76, g76b, eqLI_zero hb]
  cases t <;> cases decide (b = 0) <;> rfl
theorem g72L {α : Type} (m : Nat) (t : Bool) {b : Nat} (hb : b < W192) (k : Int → Option α) : g72 m t (limbs 6 b) k = k (cond t (-1) (cond (decide (b = 0)) 0 1)) := by
  simp only [g72, g72b, eqLI_zero hb]
  cases t <;> cases decide (b = 0) <;> rfl
theorem sign_zero (t : Bool) (b : Nat) (h : (!(t && decide (b = 0))) = true) : ((cond t (-1 : Int) (cond (decide (b = 0)) 0 1)) == 0) = decide (b = 0) := by
  cases t
  · cases decide (b = 0) <;> rfl
  · cases hb : decide (b = 0)
    · rfl
    · rw [hb] at h; cases h
theorem g33U {α : Type} (m : Nat) (s : Bool) (la : List Int) (t : Bool) (lb : List Int) (k : Bool → List Int → Bool → List Int → Int → Option α) : g33 m s la t lb k = g64 m s la (fun v => cond (!v) (k false [0, 0, 0, 0, 0, 0] false [0, 0, 0, 0, 0, 0] 1) (g64 m t lb (fun w => cond (!w) (k false [0, 0, 0, 0, 0, 0] false [0, 0, 0, 0, 0, 0] 1)
    (g76 m t lb (fun x => cond (x == 0) (k false [0, 0, 0, 0, 0, 0] false [0, 0, 0, 0, 0, 0] 4) (g77 m s la t lb (fun c l d r => k c l d r 0))))))) := by kernel_rfl
theorem g31U {α : Type} (m : Nat) (s : Bool) (la : List Int) (t : Bool) (lb : List Int) (k : Bool → List Int → Bool → List Int → Int → Option α) : g31 m s la t lb k = g24 m s la (fun v => cond (!v) (k false [0, 0, 0, 0, 0, 0] false [0, 0, 0, 0, 0, 0] 1) (g24 m t lb (fun w => cond (!w) (k false [0, 0, 0, 0, 0, 0] false [0, 0, 0, 0, 0, 0] 1)
    (g72 m t lb (fun x => cond (x == 0) (k false [0, 0, 0, 0, 0, 0] false [0, 0, 0, 0, 0, 0] 4) (g73 m s la t lb (fun c l d r => k c l d r 0))))))) := by kernel_rfl
theorem g20U {α : Type} (m : Nat) (s : Bool) (la : List Int) (t : Bool) (lb : List Int) (k : Bool → Option α) : g20 m s la t lb k = g23 m s la (fun a1 => g23 m t lb (fun b1 => g33 m s a1 t b1 (fun c l d r x => g23 m s la (fun a2 => g23 m t lb (fun b2 => g31 m s a2 t b2 (fun c' l' d' r' x' =>
    g27 m c' l' c l (fun b => cond (!b) (k false) (g27 m d' r' d r (fun b => cond (!b) (k false) (cond (x' != x) (k false) (k true)))))))))) ) := by kernel_rfl
theorem div_res (m : Nat) (hm : 240 ≤ m) (s t : Bool) {a b : Nat} (ha : a < W192) (hb : b < W192) : ∃ c v d w x, (∀ {α : Type} (k : Bool → List Int → Bool → List Int → Int → Option α), g33 m s (limbs 6 a) t (limbs 6 b) k = k c (limbs 6 v) d (limbs 6 w) x) ∧
    (∀ {α : Type} (k : Bool → List Int → Bool → List Int → Int → Option α), g31 m s (limbs 6 a) t (limbs 6 b) k = k c (limbs 6 v) d (limbs 6 w) x) := by
  cases hv : (!(s && decide (a = 0)))
  · exact ⟨false, 0, false, 0, 1, fun k => by rw [g33U, g64L m s ha, hv]; rfl, fun k => by rw [g31U, g24L m s ha, hv]; rfl⟩
  · cases hw : (!(t && decide (b = 0)))
    · exact ⟨false, 0, false, 0, 1, fun k => by rw [g33U, g64L m s ha, hv, g64L m t hb, hw]; rfl, fun k => by rw [g31U, g24L m s ha, hv, g24L m t hb, hw]; rfl⟩
    · have hs := sign_zero t b hw
      by_cases hb0 : b = 0
      · exact ⟨false, 0, false, 0, 4, fun k => by rw [g33U, g64L m s ha, hv, Bool.not_true, cond_false, g64L m t hb, hw, Bool.not_true, cond_false, g76L m t hb, hs, decide_eq_true hb0]; rfl,
          fun k => by rw [g31U, g24L m s ha, hv, Bool.not_true, cond_false, g24L m t hb, hw, Bool.not_true, cond_false, g72L m t hb, hs, decide_eq_true hb0]; rfl⟩
      · exact ⟨_, _, _, _, 0, fun k => by rw [g33U, g64L m s ha, hv, Bool.not_true, cond_false, g64L m t hb, hw, Bool.not_true, cond_false, g76L m t hb, hs, decide_eq_false hb0, cond_false, g77L m hm s t ha (by omega) hb],
          fun k => by rw [g31U, g24L m s ha, hv, Bool.not_true, cond_false, g24L m t hb, hw, Bool.not_true, cond_false, g72L m t hb, hs, decide_eq_false hb0, cond_false, g73L m hm s t ha (by omega) hb]⟩
theorem law20 (m : Nat) (hm : 240 ≤ m) (s t : Bool) {a b : Nat} (ha : a < W192) (hb : b < W192) {α : Type} (k : Bool → Option α) : g20 m s (limbs 6 a) t (limbs 6 b) k = k true := by
  have hm7 : 7 ≤ m := by omega
  obtain ⟨c, v, d, w, x, h1, h2⟩ := div_res m hm s t ha hb
  rw [g20U, g23M hm7, g23M hm7, h1, g23M hm7, g23M hm7, h2, g27M hm7, Bool.not_true, cond_false, g27M hm7, Bool.not_true, cond_false, bne_self_eq_false, cond_false]
theorem law20' (ls : List Lf) (hw : WT g20tp ls) : g20K (g20 240) ls (fun v _ _ => saysTrue v) = some () := by
  obtain ⟨a, ha, e1⟩ := limbs_ex hw.1.2.1.1 hw.1.2.1.2
  obtain ⟨b, hb, e2⟩ := limbs_ex hw.2.1.2.1.1 hw.2.1.2.1.2
  have := law20 240 (Nat.le_refl _) (lf ls 0).bool (lf ls 2).bool ha hb (fun b => saysTrue (.vl (.sv (.bool b))))
  rw [← e1, ← e2] at this
  exact this
end Go.Proofs.Ytcccndkeaichcaa.Sx
