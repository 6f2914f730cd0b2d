/- Plain laws: DivNear. Our own work. -/
import Derived.Test.YtcccndkeaichcaaPureZa
namespace Go.Proofs.Ytcccndkeaichcaa.Sx
open Go
set_option linter.unusedVariables false
set_option linter.unusedSimpArgs false
set_option maxRecDepth 100000
theorem g81U {α : Type} (m : Nat) (lb : List Int) (k : Bool → List Int → Int → Option α) : g81 m true lb false [1, 0, 0, 0, 0, 0] k = g115 m lb [1, 0, 0, 0, 0, 0] (fun x => cond (decide (x ≥ 0)) (g113 m lb [1, 0, 0, 0, 0, 0] (fun l => g71 m true l (fun b => k b l 0)))
    (g113 m [1, 0, 0, 0, 0, 0] lb (fun l => g71 m false l (fun b => k b l 0)))) := by kernel_rfl
theorem g79U {α : Type} (m : Nat) (lb : List Int) (o : Bool) (k : Bool → List Int → Bool → Option α) : g79 m true lb false [1, 0, 0, 0, 0, 0] o k = g111 m lb [1, 0, 0, 0, 0, 0] (fun x => cond (decide (x < 0)) (g110 m [1, 0, 0, 0, 0, 0] lb (fun l => g67 m false l (fun b => k b l o)))
    (g110 m lb [1, 0, 0, 0, 0, 0] (fun l => g67 m true l (fun b => k b l o)))) := by kernel_rfl
/-- one more than a quotient with its sign -/
theorem g81one {α : Type} (m : Nat) (hm : 7 ≤ m) (c : Bool) {q : Nat} (hq : q < W192) (hc : c = true → 1 ≤ q) (hs : c = false → q + 1 < W192) (k : Bool → List Int → Int → Option α) :
    g81 m c (limbs 6 q) false (limbs 6 1) k = k (c && !(decide (q - 1 = 0))) (limbs 6 (cond c (q - 1) (q + 1))) 0 := by
  obtain ⟨n, rfl⟩ : ∃ n, m = n + 7 := ⟨m - 7, by omega⟩
  cases c with
  | false => rw [g81L n hq (by decide) (hs rfl)]; rfl
  | true =>
    have h1 := hc rfl
    rw [show limbs 6 1 = [1, 0, 0, 0, 0, 0] from rfl, g81U, ← show limbs 6 1 = [1, 0, 0, 0, 0, 0] from rfl, g115L n hq (by decide), cmpN_ge, decide_eq_true h1, cond_true, g113L n h1, g71L (n + 7) true (by omega)]
    rfl
theorem g79one {α : Type} (m : Nat) (hm : 7 ≤ m) (c : Bool) {q : Nat} (hq : q < W192) (hc : c = true → 1 ≤ q) (hs : c = false → q + 1 < W192) (k : Bool → List Int → Bool → Option α) :
    g79 m c (limbs 6 q) false (limbs 6 1) false k = k (c && !(decide (q - 1 = 0))) (limbs 6 (cond c (q - 1) (q + 1))) false := by
  obtain ⟨n, rfl⟩ : ∃ n, m = n + 7 := ⟨m - 7, by omega⟩
  cases c with
  | false => rw [g79F n hq (by decide), decide_eq_true (hs rfl)]; rfl
  | true =>
    have h1 := hc rfl
    rw [show limbs 6 1 = [1, 0, 0, 0, 0, 0] from rfl, g79U, ← show limbs 6 1 = [1, 0, 0, 0, 0, 0] from rfl, g111L n hq (by decide), cmpN_lt, decide_eq_false (show ¬ q < 1 by omega), cond_false, g110L n h1, g67L (n + 7) true (by omega)]
    rfl
theorem g87U {α : Type} (m : Nat) (s : Bool) (la : List Int) (t : Bool) (lb : List Int) (k : Bool → List Int → Option α) : g87 m s la t lb k = g77 m s la t lb (fun c q d r => g113 m lb r (fun e => g115 m r e (fun x => cond (decide (x ≥ 0))
    (g66 m 1 (fun b l => g81 m c q b l (fun b l _ => k b l))) (k c q)))) := by kernel_rfl
theorem g75U {α : Type} (m : Nat) (s : Bool) (la : List Int) (t : Bool) (lb : List Int) (o : Bool) (k : Bool → List Int → Bool → Option α) : g75 m s la t lb o k = g73 m s la t lb (fun c q d r => g110 m lb r (fun e => g111 m r e (fun x => cond (decide (x < 0)) (k c q o)
    (g26 m 1 (fun b l => g79 m c q b l o (fun b l o => k b l o)))))) := by kernel_rfl
theorem near_div (m : Nat) (hm : 240 ≤ m) (s t : Bool) {a b : Nat} (ha : a < W192) (hb0 : 0 < b) (hb : b < W192) : ∃ c v, (∀ {α : Type} (k : Bool → List Int → Option α), g87 m s (limbs 6 a) t (limbs 6 b) k = k c (limbs 6 v)) ∧
    (∀ {α : Type} (k : Bool → List Int → Bool → Option α), g75 m s (limbs 6 a) t (limbs 6 b) false k = k c (limbs 6 v) false) := by
  obtain ⟨hQ1, hQ2⟩ := dQ_lt (s := s) (t := t) ha hb0
  obtain ⟨hR1, hR2⟩ := dR_lt (s := s) (t := t) (a := a) hb0 hb
  have hm7 : 7 ≤ m := by omega
  have hRb : dR s t a b < b ∨ b - dR s t a b = 0 := by omega
  have e77 := fun {α : Type} (k : Bool → List Int → Bool → List Int → Option α) => g77L m hm s t ha hb0 hb k
  have e73 := fun {α : Type} (k : Bool → List Int → Bool → List Int → Option α) => g73L m hm s t ha hb0 hb k
  have hdR1 : b = 1 → dR s t a b = 0 := by
    rintro rfl
    unfold dR ups
    simp [Nat.mod_one]
  generalize dQ s t a b = Q at *
  generalize dR s t a b = R at *
  have hc : ((!(s == t)) && !(decide (Q = 0))) = true → 1 ≤ Q := by
    intro h
    simp only [Bool.and_eq_true, Bool.not_eq_true', decide_eq_false_iff_not] at h
    omega
  generalize ((!(s == t)) && !(decide (Q = 0))) = c at *
  by_cases hge : b - R ≤ R
  · have hb2 : 2 ≤ b := by
      by_cases h1 : b = 1
      · have := hdR1 h1; omega
      · omega
    refine ⟨c && !(decide (Q - 1 = 0)), cond c (Q - 1) (Q + 1), fun k => ?_, fun k => ?_⟩
    · rw [g87U, e77, g113M hm7 hR2, g115M hm7 hR1 (by omega), cmpN_ge, decide_eq_true hge, cond_true, g66one, g81one m hm7 c hQ1 hc (fun _ => hQ2 hb2)]
    · rw [g75U, e73, g110M hm7 hR2, g111M hm7 hR1 (by omega), cmpN_lt, decide_eq_false (show ¬ R < b - R by omega), cond_false, g26one, g79one m hm7 c hQ1 hc (fun _ => hQ2 hb2)]
  · refine ⟨c, Q, fun k => ?_, fun k => ?_⟩
    · rw [g87U, e77, g113M hm7 hR2, g115M hm7 hR1 (by omega), cmpN_ge, decide_eq_false hge, cond_false]
    · rw [g75U, e73, g110M hm7 hR2, g111M hm7 hR1 (by omega), cmpN_lt, decide_eq_true (show R < b - R by omega), cond_true]
theorem g43U {α : Type} (m : Nat) (s : Bool) (la : List Int) (t : Bool) (lb : List Int) (k : Bool → List Int → Int → Option α) : g43 m s la t lb k = g64 m s la (fun v => cond (!v) (k false [0, 0, 0, 0, 0, 0] 1) (g64 m t lb (fun w => cond (!w) (k false [0, 0, 0, 0, 0, 0] 1)
    (g76 m t lb (fun x => cond (x == 0) (k false [0, 0, 0, 0, 0, 0] 4) (g87 m s la t lb (fun c l => k c l 0))))))) := by kernel_rfl
theorem g32U {α : Type} (m : Nat) (s : Bool) (la : List Int) (t : Bool) (lb : List Int) (k : Bool → List Int → Int → Option α) : g32 m s la t lb k = g24 m s la (fun v => cond (!v) (k false [0, 0, 0, 0, 0, 0] 1) (g24 m t lb (fun w => cond (!w) (k false [0, 0, 0, 0, 0, 0] 1)
    (g72 m t lb (fun x => cond (x == 0) (k false [0, 0, 0, 0, 0, 0] 4) (g75 m s la t lb false (fun c l o => g74 m c l o (fun c l x => k c l x)))))))) := by kernel_rfl
theorem g21U {α : Type} (m : Nat) (s : Bool) (la : List Int) (t : Bool) (lb : List Int) (k : Bool → Option α) : g21 m s la t lb k = g23 m s la (fun a1 => g23 m t lb (fun b1 => g43 m s a1 t b1 (fun c l x => g23 m s la (fun a2 => g23 m t lb (fun b2 => g32 m s a2 t b2 (fun c' l' x' =>
    g27 m c' l' c l (fun b => cond (!b) (k false) (cond (x' != x) (k false) (k true)))))))) ) := by kernel_rfl
theorem divnear_res (m : Nat) (hm : 240 ≤ m) (s t : Bool) {a b : Nat} (ha : a < W192) (hb : b < W192) : ∃ c v x, (∀ {α : Type} (k : Bool → List Int → Int → Option α), g43 m s (limbs 6 a) t (limbs 6 b) k = k c (limbs 6 v) x) ∧
    (∀ {α : Type} (k : Bool → List Int → Int → Option α), g32 m s (limbs 6 a) t (limbs 6 b) k = k c (limbs 6 v) x) := by
  cases hv : (!(s && decide (a = 0)))
  · exact ⟨false, 0, 1, fun k => by rw [g43U, g64L m s ha, hv]; rfl, fun k => by rw [g32U, g24L m s ha, hv]; rfl⟩
  · cases hw : (!(t && decide (b = 0)))
    · exact ⟨false, 0, 1, fun k => by rw [g43U, g64L m s ha, hv, g64L m t hb, hw]; rfl, fun k => by rw [g32U, g24L m s ha, hv, g24L m t hb, hw]; rfl⟩
    · have hs := sign_zero t b hw
      by_cases hb0 : b = 0
      · exact ⟨false, 0, 4, fun k => by rw [g43U, g64L m s ha, hv, Bool.not_true, cond_false, g64L m t hb, hw, Bool.not_true, cond_false, g76L m t hb, hs, decide_eq_true hb0]; rfl,
          fun k => by rw [g32U, g24L m s ha, hv, Bool.not_true, cond_false, g24L m t hb, hw, Bool.not_true, cond_false, g72L m t hb, hs, decide_eq_true hb0]; rfl⟩
      · obtain ⟨c, v, h1, h2⟩ := near_div m hm s t ha (show 0 < b by omega) hb
        exact ⟨c, v, 0, fun k => by rw [g43U, g64L m s ha, hv, Bool.not_true, cond_false, g64L m t hb, hw, Bool.not_true, cond_false, g76L m t hb, hs, decide_eq_false hb0, cond_false, h1],
          fun k => by rw [g32U, g24L m s ha, hv, Bool.not_true, cond_false, g24L m t hb, hw, Bool.not_true, cond_false, g72L m t hb, hs, decide_eq_false hb0, cond_false, h2, g74U]⟩
theorem law21 (m : Nat) (hm : 240 ≤ m) (s t : Bool) {a b : Nat} (ha : a < W192) (hb : b < W192) {α : Type} (k : Bool → Option α) : g21 m s (limbs 6 a) t (limbs 6 b) k = k true := by
  have hm7 : 7 ≤ m := by omega
  obtain ⟨c, v, x, h1, h2⟩ := divnear_res m hm s t ha hb
  rw [g21U, g23M hm7, g23M hm7, h1, g23M hm7, g23M hm7, h2, g27M hm7, Bool.not_true, cond_false, bne_self_eq_false, cond_false]
theorem law21' (ls : List Lf) (hw : WT g21tp ls) : g21K (g21 240) ls (fun v _ _ => saysTrue v) = some () := by
  obtain ⟨a, ha, e1⟩ := limbs_ex hw.1.2.1.1 hw.1.2.1.2
  obtain ⟨b, hb, e2⟩ := limbs_ex hw.2.1.2.1.1 hw.2.1.2.1.2
  have := law21 240 (Nat.le_refl _) (lf ls 0).bool (lf ls 2).bool ha hb (fun b => saysTrue (.vl (.sv (.bool b))))
  rw [← e1, ← e2] at this
  exact this
end Go.Proofs.Ytcccndkeaichcaa.Sx
