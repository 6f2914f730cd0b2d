/- Plain laws: ShiftNear. Our own work. -/
import Derived.Test.YtcccndkeaichcaaPureQ
namespace Go.Proofs.Ytcccndkeaichcaa.Sx
open Go
set_option linter.unusedVariables false
set_option linter.unusedSimpArgs false
set_option maxRecDepth 100000
theorem half_bit {a p : Nat} (hp : 0 < p) : a / 2 ^ (p - 1) % 2 = 1 ↔ 2 ^ (p - 1) ≤ a % 2 ^ p := by
  obtain ⟨s, rfl⟩ : ∃ s, p = s + 1 := ⟨p - 1, by omega⟩
  rw [Nat.add_sub_cancel, Nat.pow_succ, Nat.mod_mul]
  have h1 : a % 2 ^ s < 2 ^ s := Nat.mod_lt _ (Nat.two_pow_pos s)
  have h2 : a / 2 ^ s % 2 < 2 := Nat.mod_lt _ (by decide)
  generalize a / 2 ^ s % 2 = t at *
  generalize 2 ^ s = P at *
  rcases (show t = 0 ∨ t = 1 by omega) with rfl | rfl
  · simp; omega
  · simp
def nearN (q : Bool) (a p : Nat) : Nat := cond (cond q (decide (2 ^ (p - 1) < a % 2 ^ p)) (decide (2 ^ (p - 1) ≤ a % 2 ^ p))) (a / 2 ^ p + 1) (a / 2 ^ p)
theorem down_lt {a p : Nat} (hp : 0 < p) (ha : a < W192) : a / 2 ^ p + 1 < W192 := by
  obtain ⟨s, rfl⟩ : ∃ s, p = s + 1 := ⟨p - 1, by omega⟩
  have h1 : a / 2 ^ (s + 1) ≤ a / 2 := by
    rw [Nat.pow_succ, Nat.mul_comm, ← Nat.div_div_eq_div_mul]
    exact Nat.div_le_self _ _
  have ha' : a < 6277101735386680763835789423207666416102355444464034512896 := ha
  show _ < 6277101735386680763835789423207666416102355444464034512896
  omega
theorem one_up {s : Nat} (hs : s < 192) : 1 * 2 ^ s < W192 := by
  rw [Nat.one_mul, ← pow192]; exact Nat.pow_lt_pow_right (by decide) hs
theorem limbs_one : limbs 6 1 = [1, 0, 0, 0, 0, 0] := rfl
theorem odd_limb (h : Nat) : ((Int.tmod (List.getD (limbs 6 h) 0 0) 2) == 1) = decide (h % 2 = 1) := by
  rw [limbs_getD 6 h 0 (by decide), show (2 : Int) = ((2 : Nat) : Int) from rfl, ← Int.ofNat_tmod]
  have : dv 0 h % 4294967296 % 2 = h % 2 := by show h % 4294967296 % 2 = h % 2; omega
  rw [this]
  by_cases hh : h % 2 = 1
  · rw [hh]; rfl
  · rw [show h % 2 = 0 by omega]; rfl
theorem g100L {α : Type} (n p : Nat) (q : Bool) {a : Nat} (h0 : 0 < p) (hp : p < 192) (ha : a < W192) (k : Bool → List Int → Option α) :
    g100 (n + 40) q (limbs 6 a) (p : Int) k = k (q && !(decide (nearN q a p = 0))) (limbs 6 (nearN q a p)) := by
  have hD : a / 2 ^ p < W192 := Nat.lt_of_le_of_lt (Nat.div_le_self _ _) ha
  have hH : a / 2 ^ (p - 1) < W192 := Nat.lt_of_le_of_lt (Nat.div_le_self _ _) ha
  have hback : a / 2 ^ p * 2 ^ p ≤ a := Nat.div_mul_le_self _ _
  have hbl : a / 2 ^ p * 2 ^ p < W192 := Nat.lt_of_le_of_lt hback ha
  have hrest : a - a / 2 ^ p * 2 ^ p = a % 2 ^ p := by
    have := Nat.div_add_mod a (2 ^ p)
    rw [Nat.mul_comm] at this; omega
  have hpow := one_up (show p - 1 < 192 by omega)
  rw [Nat.one_mul] at hpow
  have hrl : a % 2 ^ p < W192 := Nat.lt_of_le_of_lt (Nat.mod_le _ _) ha
  have hD1 := down_lt h0 ha
  have e1 : IntKind.wrap .i64 ((p : Int) - 1) = ((p - 1 : Nat) : Int) := by rw [wrapI64 (by omega) (by omega)]; omega
  have hz : ((p : Int) == 0) = false := by simpa using (show (p : Int) ≠ 0 by omega)
  unfold g100 g100b
  rw [hz, e1]
  simp only [cond_false, ← limbs_one, g122L (n + 33) p hp ha, g122L (n + 33) (p - 1) (show p - 1 < 192 by omega) ha, g121L n p hp hD, decide_eq_true hbl, cond_true, g113L (n + 33) hback, hrest,
    g121L n (p - 1) (show p - 1 < 192 by omega) (show 1 < W192 by decide), Nat.one_mul, decide_eq_true hpow, odd_limb, eqLI_limbs hrl hpow, g112L (n + 33) hD (show 1 < W192 by decide), g71L (n + 40) q hD, g71L (n + 40) q hD1]
  have hb := half_bit (a := a) h0
  unfold nearN
  by_cases c1 : 2 ^ (p - 1) ≤ a % 2 ^ p
  · rw [decide_eq_true (hb.2 c1), decide_eq_true c1]
    cases q
    · rfl
    · by_cases c2 : a % 2 ^ p = 2 ^ (p - 1)
      · rw [decide_eq_true c2, decide_eq_false (show ¬ 2 ^ (p - 1) < a % 2 ^ p by omega)]; rfl
      · rw [decide_eq_false c2, decide_eq_true (show 2 ^ (p - 1) < a % 2 ^ p by omega)]; rfl
  · rw [decide_eq_false (fun h => c1 (hb.1 h)), decide_eq_false c1]
    cases q
    · rfl
    · rw [decide_eq_false (show ¬ a % 2 ^ p = 2 ^ (p - 1) by omega), decide_eq_false (show ¬ 2 ^ (p - 1) < a % 2 ^ p by omega)]; rfl
theorem cmpN_gt (a b : Nat) : decide (cmpN a b > 0) = decide (b < a) := by
  unfold cmpN
  by_cases h1 : a < b
  · rw [if_pos h1, decide_eq_false (show ¬ b < a by omega)]; rfl
  · by_cases h2 : b < a
    · rw [if_neg h1, if_pos h2, decide_eq_true h2]; rfl
    · rw [if_neg h1, if_neg h2, decide_eq_false h2]; rfl
theorem cmpN_zero (a b : Nat) : (cmpN a b == 0) = decide (a = b) := by
  unfold cmpN
  by_cases h1 : a < b
  · rw [if_pos h1, decide_eq_false (show ¬ a = b by omega)]; rfl
  · by_cases h2 : b < a
    · rw [if_neg h1, if_pos h2, decide_eq_false (show ¬ a = b by omega)]; rfl
    · rw [if_neg h1, if_neg h2, decide_eq_true (show a = b by omega)]; rfl
theorem cmpN_le (a b : Nat) : decide (cmpN a b ≤ 0) = decide (a ≤ b) := by
  unfold cmpN
  by_cases h1 : a < b
  · rw [if_pos h1, decide_eq_true (show a ≤ b by omega)]; rfl
  · by_cases h2 : b < a
    · rw [if_neg h1, if_pos h2, decide_eq_false (show ¬ a ≤ b by omega)]; rfl
    · rw [if_neg h1, if_neg h2, decide_eq_true (show a ≤ b by omega)]; rfl
theorem g109L {α : Type} (m : Nat) (k : List Int → Option α) : g109 m k = k (limbs 6 1) := rfl
theorem g86L {α : Type} (n p : Nat) (q o : Bool) {a : Nat} (h0 : 0 < p) (hp : p < 192) (ha : a < W192) (k : Bool → List Int → Bool → Option α) :
    g86 (n + 7) q (limbs 6 a) (p : Int) o k = k (q && !(decide (nearN q a p = 0))) (limbs 6 (nearN q a p)) o := by
  have hD : a / 2 ^ p < W192 := Nat.lt_of_le_of_lt (Nat.div_le_self _ _) ha
  have hback : a / 2 ^ p * 2 ^ p ≤ a := Nat.div_mul_le_self _ _
  have hrest : a - a / 2 ^ p * 2 ^ p = a % 2 ^ p := by
    have := Nat.div_add_mod a (2 ^ p)
    rw [Nat.mul_comm] at this; omega
  have hpow := one_up (show p - 1 < 192 by omega)
  rw [Nat.one_mul] at hpow
  have hrl : a % 2 ^ p < W192 := Nat.lt_of_le_of_lt (Nat.mod_le _ _) ha
  have hD1 := down_lt h0 ha
  have e1 : IntKind.wrap .i64 ((p : Int) - 1) = ((p - 1 : Nat) : Int) := by rw [wrapI64 (by omega) (by omega)]; omega
  have hz : ((p : Int) == 0) = false := by simpa using (show (p : Int) ≠ 0 by omega)
  unfold g86 g86b
  rw [hz, e1, decide_eq_false (show ¬ (p : Int) > 191 by omega)]
  simp only [cond_false, g118L n p hp ha, g109L, g117L n (p - 1) (show p - 1 < 192 by omega) (show 1 < W192 by decide), Nat.one_mul, g117L n p hp hD, g110L n hback, hrest, g111L n hrl hpow, cmpN_gt, cmpN_zero, g108L n hD (show 1 < W192 by decide), g67L (n + 7) q hD, g67L (n + 7) q hD1]
  unfold nearN
  by_cases c1 : 2 ^ (p - 1) < a % 2 ^ p
  · rw [decide_eq_true c1, decide_eq_true (show 2 ^ (p - 1) ≤ a % 2 ^ p by omega)]
    cases q <;> rfl
  · rw [decide_eq_false c1]
    by_cases c2 : a % 2 ^ p = 2 ^ (p - 1)
    · rw [decide_eq_true c2, decide_eq_true (show 2 ^ (p - 1) ≤ a % 2 ^ p by omega)]
      cases q <;> rfl
    · rw [decide_eq_false c2, decide_eq_false (show ¬ 2 ^ (p - 1) ≤ a % 2 ^ p by omega)]
      cases q <;> rfl
theorem g100Z {α : Type} (m : Nat) (q : Bool) (l : List Int) (k : Bool → List Int → Option α) : g100 m q l ((0 : Nat) : Int) k = k q l := by
  unfold g100 g100b
  rw [show (((0 : Nat) : Int) == 0) = true from rfl, cond_true]
theorem z191 : decide (((0 : Nat) : Int) > 191) = false := rfl
theorem zz0 : (((0 : Nat) : Int) == 0) = true := rfl
theorem g86U (m : Nat) (q o : Bool) (l : List Int) (p : Int) {α : Type} (k : Bool → List Int → Bool → Option α) : ∃ F : List Int → Option α, g86 m q l p o k = cond (decide (p > 191)) (k false [0, 0, 0, 0, 0, 0] true) (g118 m l p (fun d => cond (p == 0) (k q l o) (F d))) := by
  unfold g86 g86b
  exact ⟨_, rfl⟩
theorem g86Z {α : Type} (n : Nat) (q o : Bool) {a : Nat} (ha : a < W192) (k : Bool → List Int → Bool → Option α) : g86 (n + 7) q (limbs 6 a) ((0 : Nat) : Int) o k = k q (limbs 6 a) o := by
  obtain ⟨F, h⟩ := g86U (n + 7) q o (limbs 6 a) ((0 : Nat) : Int) k
  rw [h, z191, cond_false, g118L n 0 (by decide) ha, zz0, cond_true]
theorem near_both (n p : Nat) (hp : p < 192) (q : Bool) {a : Nat} (ha : a < W192) : ∃ s v, (∀ {α : Type} (k : Bool → List Int → Option α), g100 (n + 40) q (limbs 6 a) (p : Int) k = k s (limbs 6 v)) ∧
    (∀ {α : Type} (k : Bool → List Int → Bool → Option α), g86 (n + 40) q (limbs 6 a) (p : Int) false k = k s (limbs 6 v) false) := by
  by_cases hj : p = 0
  · subst hj
    exact ⟨q, a, fun k => g100Z (n + 40) q _ k, fun k => g86Z (n + 33) q false ha k⟩
  · exact ⟨_, _, fun k => g100L n p q (by omega) hp ha k, fun k => g86L (n + 33) p q false (by omega) hp ha k⟩
theorem g59U (m : Nat) (q : Bool) (l : List Int) (p : Int) {α : Type} (k : Bool → List Int → Int → Option α) : g59 m q l p k =
    g64 m q l (fun b => cond (!b) (k false [0, 0, 0, 0, 0, 0] 1) (g98 m p (fun c => cond (!c) (k false [0, 0, 0, 0, 0, 0] 2) (g100 m q l p (fun b l => k b l 0))))) := by kernel_rfl
theorem g41U (m : Nat) (q : Bool) (l : List Int) (p : Int) {α : Type} (k : Bool → List Int → Int → Option α) : g41 m q l p k =
    g24 m q l (fun b => cond (!b) (k false [0, 0, 0, 0, 0, 0] 1) (g84 m p 0 191 (fun c => cond (!c) (k false [0, 0, 0, 0, 0, 0] 2) (g86 m q l p false (fun b l o => g74 m b l o (fun b l x => k b l x)))))) := by kernel_rfl
theorem g16U (m : Nat) (q : Bool) (l : List Int) (p : Int) {α : Type} (k : Bool → Option α) : g16 m q l p k =
    g23 m q l (fun l' => g59 m q l' p (fun b1 l1 x1 => g23 m q l (fun l'' => g41 m q l'' p (fun b2 l2 x2 => g27 m b2 l2 b1 l1 (fun b => cond (!b) (k false) (cond (x2 != x1) (k false) (k true))))))) := by kernel_rfl
theorem g98U (m : Nat) (p : Int) {α : Type} (k : Bool → Option α) : g98 m p k = g120 m p 0 191 (fun b => k b) := by kernel_rfl
theorem g74U (m : Nat) (b : Bool) (l : List Int) {α : Type} (k : Bool → List Int → Int → Option α) : g74 m b l false k = k b l 0 := by kernel_rfl
theorem g41C (n : Nat) (q : Bool) {a : Nat} (ha : a < W192) (p : Int) {α : Type} (k : Bool → List Int → Int → Option α) : g41 (n + 40) q (limbs 6 a) p k =
    cond (!(!(q && decide (a = 0)))) (k false [0, 0, 0, 0, 0, 0] 1) (cond (!(inR p 0 191)) (k false [0, 0, 0, 0, 0, 0] 2) (g86 (n + 40) q (limbs 6 a) p false (fun b l o => g74 (n + 40) b l o (fun b l x => k b l x)))) := by
  rw [g41U, g24L (n + 40) q ha, g84E]
theorem g59C (n : Nat) (q : Bool) {a : Nat} (ha : a < W192) (p : Int) {α : Type} (k : Bool → List Int → Int → Option α) : g59 (n + 40) q (limbs 6 a) p k =
    cond (!(!(q && decide (a = 0)))) (k false [0, 0, 0, 0, 0, 0] 1) (cond (!(inR p 0 191)) (k false [0, 0, 0, 0, 0, 0] 2) (g100 (n + 40) q (limbs 6 a) p (fun b l => k b l 0))) := by
  rw [g59U, g64L (n + 40) q ha, g98U, g120E]
theorem near_res (n : Nat) (q : Bool) {a : Nat} (ha : a < W192) (p : Int) : ∃ s v x, (∀ {α : Type} (k : Bool → List Int → Int → Option α), g59 (n + 40) q (limbs 6 a) p k = k s (limbs 6 v) x) ∧
    (∀ {α : Type} (k : Bool → List Int → Int → Option α), g41 (n + 40) q (limbs 6 a) p k = k s (limbs 6 v) x) := by
  cases hv : (!(q && decide (a = 0)))
  · exact ⟨false, 0, 1, fun k => by rw [g59C n q ha, hv]; rfl, fun k => by rw [g41C n q ha, hv]; rfl⟩
  · cases hi : inR p 0 191
    · exact ⟨false, 0, 2, fun k => by rw [g59C n q ha, hv, hi]; rfl, fun k => by rw [g41C n q ha, hv, hi]; rfl⟩
    · have hi' := inR_iff.1 hi
      obtain ⟨j, rfl⟩ : ∃ j : Nat, p = j := ⟨p.toNat, by omega⟩
      obtain ⟨s, v, h1, h2⟩ := near_both n j (by omega) q ha
      refine ⟨s, v, 0, fun k => ?_, fun k => ?_⟩
      · rw [g59C n q ha, hv, hi, Bool.not_true, cond_false, cond_false, h1]
      · rw [g41C n q ha, hv, hi, Bool.not_true, cond_false, cond_false, h2, g74U]
theorem law16 (n : Nat) (q : Bool) {a : Nat} (ha : a < W192) (p : Int) {α : Type} (k : Bool → Option α) : g16 (n + 40) q (limbs 6 a) p k = k true := by
  obtain ⟨s, v, x, h1, h2⟩ := near_res n q ha p
  rw [g16U, g23L (n + 33), h1, g23L (n + 33), h2, g27L (n + 33), Bool.not_true, cond_false, bne_self_eq_false, cond_false]
theorem law16' (ls : List Lf) (hw : WT g16tp ls) : g16K (g16 47) ls (fun v _ _ => saysTrue v) = some () := by
  obtain ⟨a, ha, e1⟩ := limbs_ex hw.1.2.1.1 hw.1.2.1.2
  have := law16 7 (lf ls 0).bool ha (lf ls 2).int (fun b => saysTrue (.vl (.sv (.bool b))))
  rw [← e1] at this
  exact this
end Go.Proofs.Ytcccndkeaichcaa.Sx
