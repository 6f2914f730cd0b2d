import Derived.Test.YtlmmgjngihlpeaaAskW
namespace Go.Proofs.Ytlmmgjngihlpeaa.Sx
open Go
set_option linter.unusedVariables false
set_option linter.unusedSimpArgs false
set_option maxRecDepth 100000
theorem valR_congr {v w : Nat → Rat} {x : List Int} (ha : usA (kd x) → v (xa x) = w (xa x)) (hb : usB (kd x) → v (xb x) = w (xb x)) : valR v x = valR w x := by
 unfold valR
 unfold usA at ha
 unfold usB at hb
 by_cases k1 : kd x = 1
 ·rw [if_pos k1, if_pos k1]
 rw [if_neg k1, if_neg k1]
 by_cases k2 : kd x = 2
 ·rw [if_pos k2, if_pos k2, ha (by omega), hb (by omega)]
 rw [if_neg k2, if_neg k2]
 by_cases k3 : kd x = 3
 ·rw [if_pos k3, if_pos k3, ha (by omega), hb (by omega)]
 rw [if_neg k3, if_neg k3]
 by_cases k4 : kd x = 4
 ·rw [if_pos k4, if_pos k4, ha (by omega), hb (by omega)]
 rw [if_neg k4, if_neg k4]
 by_cases k5 : kd x = 5
 ·rw [if_pos k5, if_pos k5, ha (by omega), hb (by omega)]
 rw [if_neg k5, if_neg k5]
 by_cases k6 : kd x = 6
 ·rw [if_pos k6, if_pos k6, ha (by omega)]
 rw [if_neg k6, if_neg k6]
 by_cases k7 : kd x = 7
 ·rw [if_pos k7, if_pos k7, ha (by omega)]
 rw [if_neg k7, if_neg k7]
 by_cases k8 : kd x = 8
 ·rw [if_pos k8, if_pos k8, ha (by omega), hb (by omega)]
 rw [if_neg k8, if_neg k8]
 by_cases k9 : kd x = 9
 ·rw [if_pos k9, if_pos k9, ha (by omega), hb (by omega)]
 rw [if_neg k9, if_neg k9]
 by_cases k10 : kd x = 10
 ·rw [if_pos k10, if_pos k10, ha (by omega)]
 rw [if_neg k10, if_neg k10]
theorem valF_eq {X : Nat → List Int} {N : Nat} (hX : ∀ i, i < N → NdOk (X i) i) : ∀ (f g i : Nat), i < N → i < f → i < g → valF X f i = valF X g i
 | 0, _, i, _, h, _ => by omega
 | _ + 1, 0, i, _, _, h => by omega
 | f + 1, g + 1, i, hi, hf, hg => by
  have hx := hX i hi
  exact valR_congr (fun h => valF_eq hX f g _ (by have := hx.a h; omega) (by have := hx.a h; omega) (by have := hx.a h; omega)) (fun h => valF_eq hX f g _ (by have := hx.b h; omega) (by have := hx.b h; omega) (by have := hx.b h; omega))
theorem nds_of {u : Ty0} (h40 : u.length ≤ 40) (hu : OkFrom u 0) : Nds u.length (fun i => valF (nd u) (i + 1) i) u := by
 have ok : ∀ i, i < u.length → NdR (nd u i) i := fun i hi => by
  have h : OkN (kd (nd u i)) ((nd u i).tail.headD 0) ((nd u i).tail.tail.headD 0) (xp (nd u i)) (xq (nd u i)) i := hu i (by omega) hi
  unfold OkN at h
  have ea : xa (nd u i) = ((nd u i).tail.headD 0).toNat := rfl
  have eb : xb (nd u i) = ((nd u i).tail.tail.headD 0).toNat := rfl
  refine ⟨⟨fun h1 => ?_, fun h1 => ?_, fun h1 => ?_⟩, ?_, fun h1 => ?_, fun h1 => ?_⟩ <;> (try unfold usA at h1) <;> (try unfold usB at h1) <;> omega
 refine ⟨h40, ok, fun i hi => ?_⟩
 have hx := (ok i hi).toNdOk
 have hX : ∀ i, i < u.length → NdOk (nd u i) i := fun i hi => (ok i hi).toNdOk
 exact valR_congr (fun h => valF_eq hX _ _ _ (by have := hx.a h; omega) (by have := hx.a h; omega) (by omega)) (fun h => valF_eq hX _ _ _ (by have := hx.b h; omega) (by have := hx.b h; omega) (by omega))
def Okd (u : Ty0) : Prop := (1 ≤ u.length ∧ u.length ≤ 40) ∧ OkFrom u 0
open Classical in
theorem askedS {α : Type} (m a : Nat) {u : Ty0} (hu : RowN u) (hm : 1048576 < m) (p q : Int) (k : Int → Option α) :
  g75 m 0 u.length a p q u.length u k = if Okd u then (if (0 ≤ p ∧ p < u.length) ∧ 0 ≤ q ∧ q ≤ 64 then k 0 else k 2) else k 1 := by
 have h2 := hu.len
 rw [g75_o, g111L m a hu (by omega)]
 by_cases hu0 : Okd u
 ·have hu1 : (1 ≤ u.length ∧ u.length ≤ 40) ∧ OkFrom u 0 := hu0
  rw [dT hu1, if_pos hu0, Bool.not_true, cond_false, g90_o, g120L, wrapI (by omega) (by omega)]
  by_cases hp : 0 ≤ p ∧ p < u.length
  ·rw [dT (by omega), Bool.not_true, cond_false, g112_o, g120L]
   by_cases hq : 0 ≤ q ∧ q ≤ 64
   ·rw [dT hq, Bool.not_true, cond_false, if_pos ⟨hp, hq⟩]
   ·rw [dF hq, if_neg (fun h => hq h.2)]; rfl
  ·rw [dF (by omega), if_neg (fun h => hp h.1)]; rfl
 ·have hu1 : ¬ ((1 ≤ u.length ∧ u.length ≤ 40) ∧ OkFrom u 0) := hu0
  rw [dF hu1, if_neg hu0]; rfl
open Classical in
theorem begunI {α : Type} (m a : Nat) {u : Ty0} (hu : RowN u) (hm : 1048576 < m) (p q w : Int) (k1 : Int → Option α) (k : Ty4 → Ty0 → Option α) :
  g79 m 0 u.length a q w 0 1 1 u.length u [p] k1 k = if Okd u then (if (0 ≤ p ∧ p < u.length) ∧ 0 ≤ q ∧ q ≤ w then k [] [] else k1 2) else k1 1 := by
 have h2 := hu.len
 obtain ⟨f, rfl⟩ : ∃ f, m = f + 2 := ⟨m - 2, by omega⟩
 rw [g79_o, g113L (f + 2) a hu (by omega)]
 by_cases hu0 : Okd u
 ·have hu1 : (1 ≤ u.length ∧ u.length ≤ 40) ∧ OkFrom u 0 := hu0
  rw [dT hu1, if_pos hu0, Bool.not_true, cond_false, g114_o, show f + 2 = (f + 1) + 1 from rfl, g114l0_s, dT (by omega), cond_true, if_pos (by omega), if_pos (by decide), g68L, wrapI (x := ((u.length : Nat) : Int) - 1) (by omega) (by omega)]
  by_cases hp : 0 ≤ p ∧ p < u.length
  ·rw [dT (show 0 ≤ List.getD [p] (0 + (0 : Int).toNat) 0 ∧ List.getD [p] (0 + (0 : Int).toNat) 0 ≤ ((u.length : Nat) : Int) - 1 by
     show 0 ≤ p ∧ p ≤ ((u.length : Nat) : Int) - 1; omega), Bool.not_true, cond_false, g114l0_s, show IntKind.wrap .i64 ((0 : Int) + 1) = 1 from by decide, dF (by omega), cond_false, cond_false, g68L]
   by_cases hq : 0 ≤ q ∧ q ≤ w
   ·rw [dT hq, Bool.not_true, cond_false, g115_o, if_pos ⟨hp, hq⟩]
   ·rw [dF hq, if_neg (fun h => hq h.2)]; rfl
  ·rw [dF (show ¬ (0 ≤ List.getD [p] (0 + (0 : Int).toNat) 0 ∧ List.getD [p] (0 + (0 : Int).toNat) 0 ≤ ((u.length : Nat) : Int) - 1) by
     show ¬ (0 ≤ p ∧ p ≤ ((u.length : Nat) : Int) - 1); omega), if_neg (fun h => hp h.1)]; rfl
 ·have hu1 : ¬ ((1 ≤ u.length ∧ u.length ≤ 40) ∧ OkFrom u 0) := hu0
  rw [dF hu1, if_neg hu0]; rfl
theorem rows_nil (N : Nat) : (List.replicate N [] : Ty1) = rowsOf N ([] : List (Nat × Nat × Int)) := by
 unfold rowsOf
 refine List.ext_getElem (by simp) fun i h1 h2 => ?_
 simp
abbrev ms0 : MS := ([], [])
theorem begS {α : Type} (m n a N : Nat) (u : Ty0) (h : N ≤ 40) (k : Ty1 → Ty0 → Option α) : g76 m n N a N u k = k (rowsOf N ms0.1) (logOf ms0.2) := by
 rw [g76_o, if_pos ⟨rfl, by omega, by omega⟩, rows_nil]; rfl
theorem inv0 (N : Nat) (v : Nat → Rat) (b : Nat) : InvS N v b ms0 := ⟨by simp, by simp, by simp, by simp, by simp, by simp⟩
theorem err_nz {β : Type} {P : β → MS → Prop} {r : Except Int (β × MS)} {c : Int} (ho : OkR P r) (hr : r = .error c) : c ≠ 0 := by
 subst hr
 have ho : c = 3 ∨ c = 7 := ho
 omega
section
variable {u : Ty0} {m : Nat}
end
section
variable {α : Type} {m : Nat}
theorem bigS (hm : 300 ≤ m) {z : Int} (hz : z.natAbs < W192) (q : Bool) (c : Nat) (hc : c ≤ 1000) (k : Bool → Option α) : g88 m q (zl z) (c : Int) k = k (decide (c ≤ z.natAbs)) := by
 have hW : (1000 : Nat) < W192 := by decide
 rw [g88_o, ofS (by omega) (by omega), show false = zs (z.natAbs : Int) from (zs_nat _).symm, show zl z = zl (z.natAbs : Int) from rfl, cmpS hm (by omega) (by omega)]
 congr 1
 unfold cmpI
 by_cases h : c ≤ z.natAbs
 ·rw [dT h, if_neg (by omega)]
  split <;> rfl
 ·rw [dF h, if_pos (by omega)]; rfl
theorem compareN (hm : 300 ≤ m) {x : Int} (hx : x.natAbs < W192) {c : Nat} (hc : c < W192) (k : Int → Option α) : g89 m (zl x) (limbs 6 c) k = k (cmpN x.natAbs c) := by
 obtain ⟨n, rfl⟩ : ∃ n, m = n + 7 := ⟨m - 7, by omega⟩
 exact g89L n hx hc k
end
section
variable {N : Nat} {v : Nat → Rat} {u : Ty0} {m : Nat}
def T3 {α : Type} (k1 : Int → Int → Int → Option α) (k2 : Option α) : Option (Int × Int × Int) → Option α
 | some (x, y, c) => k1 x y c
 | none => k2
theorem sign_loop (hn : Nds N v u) (hm : 1048576 < m) {j : Nat} (hj : j < N) (q : Nat) (hq : q ≤ 64) : ∀ (d w F : Nat) (s : MS), w + d = q + 1 → d < F → InvS N v N s → ∃ r : Option (Int × Int × Int),
  (∀ {α : Type} (k1 : Int → Int → Int → Option α) (k2 : Option α), g40l0 (g85 m) (g88 m) (g59 m) (j : Int) (q : Int) N u k1 k2 F (w : Int) 0 N N 0 N N (rowsOf N s.1) (logOf s.2) = T3 k1 k2 r) ∧
  (∀ {α : Type} (k1 : Int → Int → Int → Option α) (k2 : Option α), g41l0v1 (g86 m) (g81 m) (g89 m) (g54 m) (j : Int) (q : Int) N u k1 k2 F (w : Int) false 0 N N 0 (mapOf s.1) (logOf s.2) = T3 k1 k2 r)
 | 0, w, F, s, hw, hF, hs => by
  obtain ⟨F, rfl⟩ : ∃ n, F = n + 1 := ⟨F - 1, by omega⟩
  refine ⟨none, fun k1 k2 => ?_, fun k1 k2 => ?_⟩
  ·rw [g40l0_s, dF (by omega), cond_false]; rfl
  ·rw [g41l0v1_s, dF (by omega), cond_false]; rfl
 | d + 1, w, F, s, hw, hF, hs => by
  obtain ⟨F, rfl⟩ : ∃ n, F = n + 1 := ⟨F - 1, by omega⟩
  have h40 := hn.n40
  have ho := hn.good (f := N) (n := w) hj hj hj hs
  have hS := fun {α : Type} (k : Bool → List Int → Int → Nat → Nat → Nat → Nat → Nat → Nat → Nat → Ty0 → Ty1 → Ty0 → Option α) => (specAsk hn N m N (by omega) (Nat.le_refl _) (Nat.le_refl _)) j w s hj (by omega) hs k
  have hI := fun {α : Type} (k : Bool → List Int → Bool → Nat → Nat → Nat → Int → Nat → Ty0 → Ty4 → Ty0 → Option α) => (implAsk hn N m N (by omega) (Nat.le_refl _) (Nat.le_refl _)) j w s hj (by omega) hs k
  cases hr : askM (nd u) N j w s with
  | ok r =>
   obtain ⟨z, s'⟩ := r
   rw [hr] at hS hI ho
   obtain ⟨_, hz, _, hs'⟩ := ho
   have hzW := b190h hz
   by_cases h2 : 2 ≤ z.natAbs
   ·refine ⟨some (z.sign, w, 0), fun k1 k2 => ?_, fun k1 k2 => ?_⟩
    ·rw [g40l0_s, dT (by omega), cond_true]
     refine (hS _).trans ?_
     dsimp only
     rw [zc, show (2 : Int) = ((2 : Nat) : Int) from rfl, bigS (by omega) hzW _ 2 (by omega), dT h2, cond_true, g59W m hzW]; rfl
    ·rw [g41l0v1_s, dT (by omega), cond_true, wrap16N (by omega)]
     refine (hI _).trans ?_
     dsimp only
     rw [failLive, cond_false, show ([2, 0, 0, 0, 0, 0] : List Int) = limbs 6 2 from rfl, compareN (by omega) hzW (by decide), cmpN_ge0, dT h2, cond_true, g54W m hzW]; rfl
   ·obtain ⟨r, e1, e2⟩ := sign_loop hn hm hj q hq d (w + 1) F s' (by omega) (by omega) hs'
    refine ⟨r, fun k1 k2 => ?_, fun k1 k2 => ?_⟩
    ·rw [g40l0_s, dT (by omega), cond_true]
     refine (hS _).trans ?_
     dsimp only
     rw [zc, show (2 : Int) = ((2 : Nat) : Int) from rfl, bigS (by omega) hzW _ 2 (by omega), dF h2, cond_false, wrapS (by omega), e1]
    ·rw [g41l0v1_s, dT (by omega), cond_true, wrap16N (by omega)]
     refine (hI _).trans ?_
     dsimp only
     rw [failLive, cond_false, show ([2, 0, 0, 0, 0, 0] : List Int) = limbs 6 2 from rfl, compareN (by omega) hzW (by decide), cmpN_ge0, dF h2, cond_false, wrapS (by omega), e2]
  | error c =>
   have hc := err_nz ho hr
   rw [hr] at hS hI
   refine ⟨some (0, 0, c), fun k1 k2 => ?_, fun k1 k2 => ?_⟩
   ·rw [g40l0_s, dT (by omega), cond_true]
    obtain ⟨R, L, h⟩ := hS (fun b l x n1 n2 n3 n4 n5 n6 _ _ R L => cond (x != 0) (k1 0 0 x) (g88 m b l 2 (fun y => cond y (g59 m b l (fun t => k1 t (w : Int) 0))
     (g40l0 (g85 m) (g88 m) (g59 m) (j : Int) (q : Int) N u k1 k2 F (IntKind.wrap .i64 ((w : Int) + 1)) n1 n2 n3 n4 n5 n6 R L))))
    exact h.trans (nzc hc _ _)
   ·rw [g41l0v1_s, dT (by omega), cond_true, wrap16N (by omega)]
    obtain ⟨o, M, L, h⟩ := hI (fun b l o n1 n2 n3 c _ _ M L => g81 m o n1 n2 n3 c N u M L (fun b' c => cond b' (k1 0 0 c) (g89 m l [2, 0, 0, 0, 0, 0] (fun t => cond (decide (t ≥ 0)) (g54 m b l (fun t => k1 t (w : Int) 0))
     (g41l0v1 (g86 m) (g81 m) (g89 m) (g54 m) (j : Int) (q : Int) N u k1 k2 F (IntKind.wrap .i64 ((w : Int) + 1)) o n1 n2 n3 c M L)))))
    exact h.trans (failDead o hc _ _ _)
open Classical in
theorem sign_res (hU : RowN u) (hm : 1048576 < m) (p q : Int) : ∃ x y c, (∀ {α : Type} (k : Int → Int → Int → Option α), g40 m 0 u.length u.length p q u.length u k = k x y c) ∧
  (∀ {α : Type} (k : Int → Int → Int → Option α), g41 m 0 u.length u.length p q u.length u k = k x y c) := by
 by_cases hok : Okd u
 ·by_cases hp : (0 ≤ p ∧ p < u.length) ∧ 0 ≤ q ∧ q ≤ 64
  ·obtain ⟨j, rfl⟩ : ∃ j : Nat, p = j := ⟨p.toNat, by omega⟩
   obtain ⟨n, rfl⟩ : ∃ n : Nat, q = n := ⟨q.toNat, by omega⟩
   have h40 := hok.1.2
   have hn := nds_of hok.1.2 hok.2
   obtain ⟨r, e1, e2⟩ := sign_loop hn hm (j := j) (by omega) n (by omega) (n + 1) 0 m ms0 (by omega) (by omega) (inv0 _ _ _)
   have hf : ∀ {α : Type} (k : Int → Int → Int → Option α), T3 k (k 0 0 7) r = k (r.getD (0, 0, 7)).1 (r.getD (0, 0, 7)).2.1 (r.getD (0, 0, 7)).2.2 := fun k => by
    cases r with
    | none => rfl
    | some r => rfl
   refine ⟨(r.getD (0, 0, 7)).1, (r.getD (0, 0, 7)).2.1, (r.getD (0, 0, 7)).2.2, fun k => ?_, fun k => ?_⟩
   rotate_left
   ·rw [g41_o, begunI m _ hU hm, if_pos hok, if_pos hp]
    exact (e2 k (k 0 0 7)).trans (hf k)
   ·rw [g40_o, askedS m _ hU hm, if_pos hok, if_pos hp, zc, begS m 0 u.length u.length u h40]
    exact (e1 k (k 0 0 7)).trans (hf k)
  ·refine ⟨0, 0, 2, fun k => ?_, fun k => ?_⟩
   ·rw [g40_o, askedS m _ hU hm, if_pos hok, if_neg hp]; rfl
   ·rw [g41_o, begunI m _ hU hm, if_pos hok, if_neg hp]; rfl
 ·refine ⟨0, 0, 1, fun k => ?_, fun k => ?_⟩
  ·rw [g40_o, askedS m _ hU hm, if_neg hok]; rfl
  ·rw [g41_o, begunI m _ hU hm, if_neg hok]; rfl
theorem askLaw7 {α : Type} (m cap : Nat) (p q : Int) {u : List (List Int)} (h5 : EK.Ws (.rc [.i8, .i16, .i16, .i64, .i64]) u) (hu : u.length ≤ 9223372036854775807) (hm : 1048576 < m) (k : Bool → Option α) :
  g7 m 0 u.length cap p q u.length u k = k true := by
 rw [g7_o, show (1048576 : Int) = ((1048576 : Nat) : Int) from rfl, g30L m 0 cap u (Nat.le_refl _) hu]
 by_cases hul : u.length ≤ 1048576
 ·have hU := rowN_of h5 hul
  have hm1 : u.length < m := by omega
  obtain ⟨x, y, c, e1, e2⟩ := sign_res hU hm p q
  rw [if_pos hul, dF (by omega), cond_false, g32L m cap hU.toRow5 hm1, e1, g32L m cap hU.toRow5 hm1, e2, bne_self_eq_false, cond_false, bne_self_eq_false, cond_false, bne_self_eq_false, cond_false, g32L m cap hU.toRow5 hm1, g34T m _ _ _ _ hul hm]; rfl
 ·rw [if_neg hul, dT (by omega), cond_true]
end
def ap7 : List AP := [.sl (.rc [.i8, .i16, .i16, .i64, .i64]), .flat (.vl (.sv (.int .i64))), .flat (.vl (.sv (.int .i64)))]
theorem askLaw7m (m : Nat) (hm : 1048576 < m) (ls : List Lf) (hw : WA ap7 ls) : g7K (g7 m) ls (fun v _ _ => saysTrue v) = some () := by
 obtain ⟨⟨a1, a2, a3, a4, a5, a6⟩, _⟩ := hw
 rw [maxLen_eq] at a4
 unfold g7K
 have e0 : (lf ls 0).nat = 0 := a1
 have e1 : (lf ls 1).nat = ((lf ls 6).lst (.rc [.i8, .i16, .i16, .i64, .i64])).length := a5.symm
 have e3 : (lf ls 5).nat = (lf ls 1).nat := a2
 have c1 : (lf ls 1).nat ≤ (lf ls 2).nat := a3
 have c2 : (lf ls 2).nat ≤ 9223372036854775807 := a4
 have w1 : EK.Ws (.rc [.i8, .i16, .i16, .i64, .i64]) ((lf ls 6).lst (.rc [.i8, .i16, .i16, .i64, .i64])) := a6
 rw [e3, e0, e1]
 exact askLaw7 m _ _ _ w1 (by omega) hm _
theorem askLaw7' (ls : List Lf) (hw : WA ap7 ls) : g7K (g7 1048577) ls (fun v _ _ => saysTrue v) = some () := askLaw7m 1048577 (by omega) ls hw
end Go.Proofs.Ytlmmgjngihlpeaa.Sx
