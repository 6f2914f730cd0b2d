/- Plain laws: what is asked of a term answers alike. Our own work. -/
import Derived.Test.YtlmmgjngihlpeaaAskW
namespace Go.Proofs.Ytlmmgjngihlpeaa.Sx
open Go
set_option linter.unusedVariables false
set_option linter.unusedSimpArgs false
set_option maxRecDepth 100000
theorem valR_congr {v w : Nat → Rat} {x : List Int} (ha : usA (kd x) → v (xa x) = w (xa x)) (hb : usB (kd x) → v (xb x) = w (xb x)) : valR v x = valR w x := by
 unfold valR
 unfold usA at ha
 unfold usB at hb
 by_cases k1 : kd x = 1
 ·rw [if_pos k1, if_pos k1]
 rw [if_neg k1, if_neg k1]
 by_cases k2 : kd x = 2
 ·rw [if_pos k2, if_pos k2, ha (by omega), hb (by omega)]
 rw [if_neg k2, if_neg k2]
 by_cases k3 : kd x = 3
 ·rw [if_pos k3, if_pos k3, ha (by omega), hb (by omega)]
 rw [if_neg k3, if_neg k3]
 by_cases k4 : kd x = 4
 ·rw [if_pos k4, if_pos k4, ha (by omega), hb (by omega)]
 rw [if_neg k4, if_neg k4]
 by_cases k5 : kd x = 5
 ·rw [if_pos k5, if_pos k5, ha (by omega), hb (by omega)]
 rw [if_neg k5, if_neg k5]
 by_cases k6 : kd x = 6
 ·rw [if_pos k6, if_pos k6, ha (by omega)]
 rw [if_neg k6, if_neg k6]
 by_cases k7 : kd x = 7
 ·rw [if_pos k7, if_pos k7, ha (by omega)]
 rw [if_neg k7, if_neg k7]
 by_cases k8 : kd x = 8
 ·rw [if_pos k8, if_pos k8, ha (by omega), hb (by omega)]
 rw [if_neg k8, if_neg k8]
 by_cases k9 : kd x = 9
 ·rw [if_pos k9, if_pos k9, ha (by omega), hb (by omega)]
 rw [if_neg k9, if_neg k9]
 by_cases k10 : kd x = 10
 ·rw [if_pos k10, if_pos k10, ha (by omega)]
 rw [if_neg k10, if_neg k10]
theorem valF_eq {X : Nat → List Int} {N : Nat} (hX : ∀ i, i < N → NdOk (X i) i) : ∀ (f g i : Nat), i < N → i < f → i < g → valF X f i = valF X g i
 | 0, _, i, _, h, _ => by omega
 | _ + 1, 0, i, _, _, h => by omega
 | f + 1, g + 1, i, hi, hf, hg => by
  have hx := hX i hi
  exact valR_congr (fun h => valF_eq hX f g _ (by have := hx.a h; omega) (by have := hx.a h; omega) (by have := hx.a h; omega)) (fun h => valF_eq hX f g _ (by have := hx.b h; omega) (by have := hx.b h; omega) (by have := hx.b h; omega))
theorem nds_of {u : Ty0} (h40 : u.length ≤ 40) (hu : OkFrom u 0) : Nds u.length (fun i => valF (nd u) (i + 1) i) u := by
 have ok : ∀ i, i < u.length → NdR (nd u i) i := fun i hi => by
  have h : OkN (kd (nd u i)) ((nd u i).tail.headD 0) ((nd u i).tail.tail.headD 0) (xp (nd u i)) (xq (nd u i)) i := hu i (by omega) hi
  unfold OkN at h
  have ea : xa (nd u i) = ((nd u i).tail.headD 0).toNat := rfl
  have eb : xb (nd u i) = ((nd u i).tail.tail.headD 0).toNat := rfl
  refine ⟨⟨fun h1 => ?_, fun h1 => ?_, fun h1 => ?_⟩, ?_, fun h1 => ?_, fun h1 => ?_⟩ <;> (try unfold usA at h1) <;> (try unfold usB at h1) <;> omega
 refine ⟨h40, ok, fun i hi => ?_⟩
 have hx := (ok i hi).toNdOk
 have hX : ∀ i, i < u.length → NdOk (nd u i) i := fun i hi => (ok i hi).toNdOk
 exact valR_congr (fun h => valF_eq hX _ _ _ (by have := hx.a h; omega) (by have := hx.a h; omega) (by omega)) (fun h => valF_eq hX _ _ _ (by have := hx.b h; omega) (by have := hx.b h; omega) (by omega))
def Okd (u : Ty0) : Prop := (1 ≤ u.length ∧ u.length ≤ 40) ∧ OkFrom u 0
open Classical in
theorem askedS {α : Type} (m a : Nat) {u : Ty0} (hu : RowN u) (hm : 1048576 < m) (p q : Int) (k : Int → Option α) :
  g75 m 0 u.length a p q u.length u k = if Okd u then (if (0 ≤ p ∧ p < u.length) ∧ 0 ≤ q ∧ q ≤ 64 then k 0 else k 2) else k 1 := by
 have h2 := hu.len
 rw [g75_o, g111L m a hu (by omega)]
 by_cases hu0 : Okd u
 ·have hu1 : (1 ≤ u.length ∧ u.length ≤ 40) ∧ OkFrom u 0 := hu0
  rw [dT hu1, if_pos hu0, Bool.not_true, cond_false, g90_o, g120L, wrapI (by omega) (by omega)]
  by_cases hp : 0 ≤ p ∧ p < u.length
  ·rw [dT (by omega), Bool.not_true, cond_false, g112_o, g120L]
   by_cases hq : 0 ≤ q ∧ q ≤ 64
   ·rw [dT hq, Bool.not_true, cond_false, if_pos ⟨hp, hq⟩]
   ·rw [dF hq, if_neg (fun h => hq h.2)]; rfl
  ·rw [dF (by omega), if_neg (fun h => hp h.1)]; rfl
 ·have hu1 : ¬ ((1 ≤ u.length ∧ u.length ≤ 40) ∧ OkFrom u 0) := hu0
  rw [dF hu1, if_neg hu0]; rfl
open Classical in
theorem begunI {α : Type} (m a : Nat) {u : Ty0} (hu : RowN u) (hm : 1048576 < m) (p q w : Int) (k1 : Int → Option α) (k : Ty4 → Ty0 → Option α) :
  g79 m 0 u.length a q w 0 1 1 u.length u [p] k1 k = if Okd u then (if (0 ≤ p ∧ p < u.length) ∧ 0 ≤ q ∧ q ≤ w then k [] [] else k1 2) else k1 1 := by
 have h2 := hu.len
 obtain ⟨f, rfl⟩ : ∃ f, m = f + 2 := ⟨m - 2, by omega⟩
 rw [g79_o, g113L (f + 2) a hu (by omega)]
 by_cases hu0 : Okd u
 ·have hu1 : (1 ≤ u.length ∧ u.length ≤ 40) ∧ OkFrom u 0 := hu0
  rw [dT hu1, if_pos hu0, Bool.not_true, cond_false, g114_o, show f + 2 = (f + 1) + 1 from rfl, g114l0_s, dT (by omega), cond_true, if_pos (by omega), if_pos (by decide), g68L, wrapI (x := ((u.length : Nat) : Int) - 1) (by omega) (by omega)]
  by_cases hp : 0 ≤ p ∧ p < u.length
  ·rw [dT (show 0 ≤ List.getD [p] (0 + (0 : Int).toNat) 0 ∧ List.getD [p] (0 + (0 : Int).toNat) 0 ≤ ((u.length : Nat) : Int) - 1 by
     show 0 ≤ p ∧ p ≤ ((u.length : Nat) : Int) - 1; omega), Bool.not_true, cond_false, g114l0_s, show IntKind.wrap .i64 ((0 : Int) + 1) = 1 from by decide, dF (by omega), cond_false, cond_false, g68L]
   by_cases hq : 0 ≤ q ∧ q ≤ w
   ·rw [dT hq, Bool.not_true, cond_false, g115_o, if_pos ⟨hp, hq⟩]
   ·rw [dF hq, if_neg (fun h => hq h.2)]; rfl
  ·rw [dF (show ¬ (0 ≤ List.getD [p] (0 + (0 : Int).toNat) 0 ∧ List.getD [p] (0 + (0 : Int).toNat) 0 ≤ ((u.length : Nat) : Int) - 1) by
     show ¬ (0 ≤ p ∧ p ≤ ((u.length : Nat) : Int) - 1); omega), if_neg (fun h => hp h.1)]; rfl
 ·have hu1 : ¬ ((1 ≤ u.length ∧ u.length ≤ 40) ∧ OkFrom u 0) := hu0
  rw [dF hu1, if_neg hu0]; rfl
theorem rows_nil (N : Nat) : (List.replicate N [] : Ty1) = rowsOf N ([] : List (Nat × Nat × Int)) := by
 unfold rowsOf
 refine List.ext_getElem (by simp) fun i h1 h2 => ?_
 simp
abbrev ms0 : MS := ([], [])
theorem begS {α : Type} (m n a N : Nat) (u : Ty0) (h : N ≤ 40) (k : Ty1 → Ty0 → Option α) : g76 m n N a N u k = k (rowsOf N ms0.1) (logOf ms0.2) := by
 rw [g76_o, if_pos ⟨rfl, by omega, by omega⟩, rows_nil]; rfl
theorem inv0 (N : Nat) (v : Nat → Rat) (b : Nat) : InvS N v b ms0 := ⟨by simp, by simp, by simp, by simp, by simp, by simp⟩
theorem err_nz {β : Type} {P : β → MS → Prop} {r : Except Int (β × MS)} {c : Int} (ho : OkR P r) (hr : r = .error c) : c ≠ 0 := by
 subst hr
 have ho : c = 3 ∨ c = 7 := ho
 omega
section
variable {u : Ty0} {m : Nat}
open Classical in
theorem away_res (hU : RowN u) (hm : 1048576 < m) (p : Int) : ∃ x c, (∀ {α : Type} (k : Int → Int → Option α), g31 m 0 u.length u.length p u.length u k = k x c) ∧
  (∀ {α : Type} (k : Int → Int → Option α), g33 m 0 u.length u.length p u.length u k = k x c) := by
 by_cases hok : Okd u
 ·by_cases hp : 0 ≤ p ∧ p < u.length
  ·have hn := nds_of hok.1.2 hok.2
   obtain ⟨j, rfl⟩ : ∃ j : Nat, p = j := ⟨p.toNat, by omega⟩
   have hj : j < u.length := by omega
   have h40 := hok.1.2
   have ho := hn.away (f := u.length) (Nat.le_refl _) (Nat.le_refl _) hj 41 0 (by omega) (inv0 _ _ _)
   have hS := fun {α : Type} (k : Int → Int → Nat → Nat → Nat → Nat → Nat → Nat → Ty1 → Ty0 → Option α) => awayS hn (show 300 ≤ m by omega) (specAsk hn u.length m u.length (by omega) (Nat.le_refl _) (Nat.le_refl _)) hj hj hj k 41 0 m (by omega) (by omega) (inv0 _ _ _)
   have hI := fun {α : Type} (k : Int → Bool → Nat → Nat → Nat → Int → Ty4 → Ty0 → Option α) => awayI hn (show 300 ≤ m by omega) (implAsk hn u.length m u.length (by omega) (Nat.le_refl _) (Nat.le_refl _)) hj hj hj k 41 0 m (by omega) (by omega) (inv0 _ _ _)
   have s0 : ∀ {α : Type} (k : Int → Int → Option α), g31 m 0 u.length u.length (j : Int) u.length u k = g77 (fun {α} => g85 m) m (j : Int) 0 u.length u.length 0 u.length u.length u.length u (rowsOf u.length ms0.1) (logOf ms0.2) (fun x c _ _ _ _ _ _ _ _ => k x c) := fun k => by
    rw [g31_o, askedS m _ hU hm, if_pos hok, if_pos ⟨hp, by omega, by omega⟩, zc, begS m 0 u.length u.length u h40]
   have i0 : ∀ {α : Type} (k : Int → Int → Option α), g33 m 0 u.length u.length (j : Int) u.length u k = g80 (fun {α} => g86 m) m (j : Int) false 0 u.length u.length 0 u.length u (mapOf ms0.1) (logOf ms0.2) (fun x b n1 n2 n3 c M L => g81 m b n1 n2 n3 c u.length u M L (fun b x' => cond b (k 0 x') (k x 0))) := fun k => by
    rw [g33_o, begunI m _ hU hm, if_pos hok, if_pos ⟨hp, by omega, by omega⟩, wrap16N (by omega)]; rfl
   cases hr : awayM (askM (nd u) u.length) j 41 0 ms0 with
   | ok r =>
    obtain ⟨g, s'⟩ := r
    rw [hr] at hS hI
    refine ⟨(g : Int), 0, fun k => (s0 k).trans ?_, fun k => (i0 k).trans ?_⟩
    ·rw [g77_o]; exact hS _
    ·rw [g80_o]; exact (hI _).trans (failLive _ _ _)
   | error c =>
    have hc := err_nz ho hr
    rw [hr] at hS hI
    refine ⟨0, c, fun k => (s0 k).trans ?_, fun k => (i0 k).trans ?_⟩
    ·rw [g77_o]
     obtain ⟨R, L, h⟩ := hS (fun x c _ _ _ _ _ _ _ _ => k x c)
     exact h
    ·rw [g80_o]
     obtain ⟨o, M, L, h⟩ := hI (fun x b n1 n2 n3 c M L => g81 m b n1 n2 n3 c u.length u M L (fun b x' => cond b (k 0 x') (k x 0)))
     exact h.trans (failDead o hc _ _ _)
  ·refine ⟨0, 2, fun k => ?_, fun k => ?_⟩
   ·rw [g31_o, askedS m _ hU hm, if_pos hok, if_neg (fun h => hp h.1)]; rfl
   ·rw [g33_o, begunI m _ hU hm, if_pos hok, if_neg (fun h => hp h.1)]; rfl
 ·refine ⟨0, 1, fun k => ?_, fun k => ?_⟩
  ·rw [g31_o, askedS m _ hU hm, if_neg hok]; rfl
  ·rw [g33_o, begunI m _ hU hm, if_neg hok]; rfl
theorem askLaw4 {α : Type} (m cap : Nat) (p : Int) {u : List (List Int)} (h5 : EK.Ws (.rc [.i8, .i16, .i16, .i64, .i64]) u) (hu : u.length ≤ 9223372036854775807) (hm : 1048576 < m) (k : Bool → Option α) :
  g4 m 0 u.length cap p u.length u k = k true := by
 rw [g4_o, show (1048576 : Int) = ((1048576 : Nat) : Int) from rfl, g30L m 0 cap u (Nat.le_refl _) hu]
 by_cases hul : u.length ≤ 1048576
 ·have hU := rowN_of h5 hul
  have hm1 : u.length < m := by omega
  obtain ⟨x, c, e1, e2⟩ := away_res hU hm p
  rw [if_pos hul, dF (by omega), cond_false, g32L m cap hU.toRow5 hm1, e1, g32L m cap hU.toRow5 hm1, e2, bne_self_eq_false, cond_false, bne_self_eq_false, cond_false, g32L m cap hU.toRow5 hm1, g34T m _ _ _ _ hul hm]; rfl
 ·rw [if_neg hul, dT (by omega), cond_true]
end
def ap4 : List AP := [.sl (.rc [.i8, .i16, .i16, .i64, .i64]), .flat (.vl (.sv (.int .i64)))]
theorem askLaw4m (m : Nat) (hm : 1048576 < m) (ls : List Lf) (hw : WA ap4 ls) : g4K (g4 m) ls (fun v _ _ => saysTrue v) = some () := by
 obtain ⟨⟨a1, a2, a3, a4, a5, a6⟩, _⟩ := hw
 rw [maxLen_eq] at a4
 unfold g4K
 have e0 : (lf ls 0).nat = 0 := a1
 have e1 : (lf ls 1).nat = ((lf ls 5).lst (.rc [.i8, .i16, .i16, .i64, .i64])).length := a5.symm
 have e3 : (lf ls 4).nat = (lf ls 1).nat := a2
 have c1 : (lf ls 1).nat ≤ (lf ls 2).nat := a3
 have c2 : (lf ls 2).nat ≤ 9223372036854775807 := a4
 have w1 : EK.Ws (.rc [.i8, .i16, .i16, .i64, .i64]) ((lf ls 5).lst (.rc [.i8, .i16, .i16, .i64, .i64])) := a6
 rw [e3, e0, e1]
 exact askLaw4 m _ _ w1 (by omega) hm _
theorem askLaw4' (ls : List Lf) (hw : WA ap4 ls) : g4K (g4 1048577) ls (fun v _ _ => saysTrue v) = some () := askLaw4m 1048577 (by omega) ls hw
end Go.Proofs.Ytlmmgjngihlpeaa.Sx
