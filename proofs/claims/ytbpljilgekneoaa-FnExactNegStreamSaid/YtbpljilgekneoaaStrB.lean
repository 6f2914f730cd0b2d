/- Plain laws: valid streams; ValidStream, DigitAt. Our own work. -/
import Derived.Test.YtbpljilgekneoaaStrA
namespace Go.Proofs.Ytbpljilgekneoaa.Sx
open Go
set_option linter.unusedVariables false
set_option linter.unusedSimpArgs false
set_option maxRecDepth 100000
def Dg (x : Int) : Prop := -1 ≤ x ∧ x ≤ 1
instance (x : Int) : Decidable (Dg x) := by unfold Dg; infer_instance
/-- Are they digits all? -/
def Dgs (u : List Int) : Prop := ∀ x ∈ u, Dg x
instance (u : List Int) : Decidable (Dgs u) := by unfold Dgs; infer_instance
theorem dgs_drop {u : List Int} {i : Nat} (hi : i < u.length) : Dgs (u.drop i) ↔ Dg (u[i]) ∧ Dgs (u.drop (i + 1)) := by
  rw [List.drop_eq_getElem_cons hi]
  exact List.forall_mem_cons
theorem dg_cond {β : Type} (x : Int) (a b : β) : cond (decide (x < (-1 : Int))) a (cond (decide (x > (1 : Int))) a b) = cond (!(decide (Dg x))) a b := by
  by_cases h1 : x < -1
  · rw [dT h1, dF (fun h : Dg x => by have := h.1; omega)]; rfl
  · by_cases h2 : x > 1
    · rw [dF h1, dT h2, dF (fun h : Dg x => by have := h.2; omega)]; rfl
    · rw [dF h1, dF h2, dT (show Dg x from ⟨by omega, by omega⟩)]; rfl
theorem g87s {α : Type} (lo len cap n : Nat) (u : List Int) (kF kT : Option α) (m : Nat) (i : Int) : g87l0 lo len cap n u kF kT (m + 1) i =
    cond (decide (i < ((len : Nat) : Int))) (if 0 ≤ i ∧ i < (len : Nat) then (if (lo + i.toNat) < n then cond (decide ((List.getD u (lo + i.toNat) 0) < (-1 : Int))) kF (if 0 ≤ i ∧ i < (len : Nat) then (if (lo + i.toNat) < n then
      cond (decide ((List.getD u (lo + i.toNat) 0) > (1 : Int))) kF (g87l0 lo len cap n u kF kT m (IntKind.wrap .i64 (i + (1 : Int)))) else none) else none) else none) else none) kT := by kernel_rfl
theorem g87loop {α : Type} (cap : Nat) {u : List Int} (hlen : u.length ≤ 1048576) (kF kT : Option α) : ∀ (d i m : Nat), i + d = u.length → d < m →
    g87l0 0 u.length cap u.length u kF kT m (i : Int) = cond (decide (Dgs (u.drop i))) kT kF
  | 0, i, m, hi, hm => by
    obtain ⟨m, rfl⟩ : ∃ n, m = n + 1 := ⟨m - 1, by omega⟩
    rw [g87s, dF (by omega), cond_false, List.drop_eq_nil_of_le (by omega), dT (show Dgs [] from fun x hx => nomatch hx)]; rfl
  | d + 1, i, m, hi, hm => by
    obtain ⟨m, rfl⟩ : ∃ n, m = n + 1 := ⟨m - 1, by omega⟩
    have h1 : i < u.length := by omega
    rw [g87s, dT (show (i : Int) < ((u.length : Nat) : Int) by omega), cond_true, if_pos ⟨by omega, by omega⟩, Int.toNat_natCast, Nat.zero_add, if_pos h1, if_pos ⟨by omega, by omega⟩, if_pos h1,
      getD_at u 0 h1, wrapS (by omega), g87loop cap hlen kF kT d (i + 1) m (by omega) (by omega), dg_cond]
    exact cond_dec (dgs_drop h1) kT kF
theorem g87u {α : Type} (m lo len cap n : Nat) (u : List Int) (k : Bool → Option α) : g87 m lo len cap n u k = g87l0 lo len cap n u (k false) (k true) m ((0 : Nat) : Int) := by kernel_rfl
theorem g87L {α : Type} (m cap : Nat) {u : List Int} (hlen : u.length ≤ 1048576) (hm : 1048576 < m) (k : Bool → Option α) : g87 m 0 u.length cap u.length u k = k (decide (Dgs u)) := by
  rw [g87u, g87loop cap hlen _ _ u.length 0 m (by omega) (by omega), List.drop_zero, cond_k]
  cases decide (Dgs u) <;> rfl
theorem g89L {α : Type} (q : Nat) (x : Int) (k : Bool → Option α) : g89 q x k = k (!(decide (Dg x))) := by
  show cond (decide (x ≥ (-1 : Int))) (k (!(decide (x ≤ (1 : Int))))) (k (!false)) = _
  rw [cond_k]; congr 1
  by_cases h1 : x ≥ -1
  · by_cases h2 : x ≤ 1
    · rw [dT h1, dT h2, dT (show Dg x from ⟨h1, h2⟩)]; rfl
    · rw [dT h1, dF h2, dF (fun h : Dg x => h2 h.2)]; rfl
  · rw [dF h1, dF (fun h : Dg x => h1 h.1)]; rfl
theorem g91s {α : Type} (q lo len cap : Nat) (w : Int) (n : Nat) (u : List Int) (kI : Int → Option α) (kN : Option α) (m : Nat) (i : Int) : g91l0 (g89 q) lo len cap w n u kI kN (m + 1) i =
    cond (decide (i < w)) (if 0 ≤ i ∧ i < (len : Nat) then (if (lo + i.toNat) < n then g89 q (List.getD u (lo + i.toNat) 0) (fun b => cond b (kI i) (g91l0 (g89 q) lo len cap w n u kI kN m (IntKind.wrap .i64 (i + (1 : Int))))) else none) else none) kN := by kernel_rfl
theorem g91loop {α : Type} (q cap : Nat) {u : List Int} (hlen : u.length ≤ 1048576) (kI : Int → Option α) (kN kF : Option α) (hI : ∀ j : Nat, kI (j : Int) = kF) : ∀ (d i m : Nat), i + d = u.length → d < m →
    g91l0 (g89 q) 0 u.length cap ((u.length : Nat) : Int) u.length u kI kN m (i : Int) = cond (decide (Dgs (u.drop i))) kN kF
  | 0, i, m, hi, hm => by
    obtain ⟨m, rfl⟩ : ∃ n, m = n + 1 := ⟨m - 1, by omega⟩
    rw [g91s, dF (by omega), cond_false, List.drop_eq_nil_of_le (by omega), dT (show Dgs [] from fun x hx => nomatch hx)]; rfl
  | d + 1, i, m, hi, hm => by
    obtain ⟨m, rfl⟩ : ∃ n, m = n + 1 := ⟨m - 1, by omega⟩
    have h1 : i < u.length := by omega
    rw [g91s, dT (show (i : Int) < ((u.length : Nat) : Int) by omega), cond_true, if_pos ⟨by omega, by omega⟩, Int.toNat_natCast, Nat.zero_add, if_pos h1, getD_at u 0 h1, g89L, wrapS (by omega), hI,
      g91loop q cap hlen kI kN kF hI d (i + 1) m (by omega) (by omega)]
    exact cond_dec (dgs_drop h1) kN kF
theorem g77u {α : Type} (m lo len cap n : Nat) (u : List Int) (k : Bool → Option α) : g77 m lo len cap n u k = g91l0 (g89 m) lo len cap ((len : Nat) : Int) n u (fun x => k (!(decide (x ≥ (0 : Int))))) (k (!(decide ((-1 : Int) ≥ (0 : Int))))) m ((0 : Nat) : Int) := by kernel_rfl
theorem g77L {α : Type} (m cap : Nat) {u : List Int} (hlen : u.length ≤ 1048576) (hm : 1048576 < m) (k : Bool → Option α) : g77 m 0 u.length cap u.length u k = k (decide (Dgs u)) := by
  rw [g77u, g91loop m cap hlen _ _ (k false) (fun j => by rw [dT (by omega)]; rfl) u.length 0 m (by omega) (by omega), List.drop_zero, dF (show ¬ ((-1 : Int) ≥ 0) by omega)]
  cases decide (Dgs u) <;> rfl
/-- a valid stream -/
def okS (u v : List Int) : Bool := decide (u.length ≤ 16) && (decide (1 ≤ v.length) && (decide (v.length ≤ 14) && (decide (Dgs u) && decide (Dgs v))))
theorem g76u {α : Type} (m lo len cap lo' len' cap' n : Nat) (u : List Int) (n' : Nat) (v : List Int) (k : Bool → Option α) : g76 m lo len cap lo' len' cap' n u n' v k =
    cond (decide (((len : Nat) : Int) ≤ (16 : Int))) (g63 m ((len' : Nat) : Int) 1 14 (fun r => cond r (g87 m lo len cap n u (fun r => cond r (g87 m lo' len' cap' n' v (fun r => k r)) (k false))) (k false))) (k false) := by kernel_rfl
theorem g63L {α : Type} (m : Nat) (x lo hi : Int) (k : Bool → Option α) : g63 m x lo hi k = k (decide (lo ≤ x ∧ x ≤ hi)) := by
  show cond (decide (x ≥ lo)) (k (decide (x ≤ hi))) (k false) = _
  rw [cond_k]; congr 1
  by_cases h1 : x ≥ lo <;> by_cases h2 : x ≤ hi <;> simp [h1, h2]
theorem g58L {α : Type} (m : Nat) (x lo hi : Int) (k : Bool → Option α) : g58 m x lo hi k = k (decide (lo ≤ x ∧ x ≤ hi)) := g63L m x lo hi k
theorem g76L {α : Type} (m cap cap' : Nat) {u v : List Int} (hu : u.length ≤ 1048576) (hv : v.length ≤ 1048576) (hm : 1048576 < m) (k : Bool → Option α) : g76 m 0 u.length cap 0 v.length cap' u.length u v.length v k = k (okS u v) := by
  rw [g76u, g63L, g87L m cap hu hm, g87L m cap' hv hm, cond_k, cond_k, cond_k]; congr 1
  unfold okS
  by_cases h1 : u.length ≤ 16
  · rw [dT h1, dT (by omega)]
    by_cases h2 : 1 ≤ v.length
    · by_cases h3 : v.length ≤ 14
      · rw [dT h2, dT h3, dT (by omega)]; cases decide (Dgs u) <;> rfl
      · rw [dT h2, dF h3, dF (by omega)]; rfl
    · rw [dF h2, dF (by omega)]; rfl
  · rw [dF h1, dF (by omega)]; rfl
theorem g41u {α : Type} (m lo len cap lo' len' cap' n : Nat) (u : List Int) (n' : Nat) (v : List Int) (k : Bool → Option α) : g41 m lo len cap lo' len' cap' n u n' v k =
    cond (decide (((len : Nat) : Int) ≤ (16 : Int))) (cond (decide (((len' : Nat) : Int) ≥ (1 : Int))) (cond (decide (((len' : Nat) : Int) ≤ (14 : Int))) (g77 m lo len cap n u (fun r => cond r (g77 m lo' len' cap' n' v (fun r => k r)) (k false))) (k false)) (k false)) (k false) := by kernel_rfl
theorem g41L {α : Type} (m cap cap' : Nat) {u v : List Int} (hu : u.length ≤ 1048576) (hv : v.length ≤ 1048576) (hm : 1048576 < m) (k : Bool → Option α) : g41 m 0 u.length cap 0 v.length cap' u.length u v.length v k = k (okS u v) := by
  rw [g41u, g77L m cap hu hm, g77L m cap' hv hm, cond_k, cond_k, cond_k, cond_k]; congr 1
  unfold okS
  by_cases h1 : u.length ≤ 16
  · rw [dT h1, dT (by omega)]
    by_cases h2 : 1 ≤ v.length
    · by_cases h3 : v.length ≤ 14
      · rw [dT h2, dT h3, dT (by omega), dT (by omega)]; cases decide (Dgs u) <;> rfl
      · rw [dT h2, dF h3, dT (by omega), dF (by omega)]; rfl
    · rw [dF h2, dF (by omega)]; rfl
  · rw [dF h1, dF (by omega)]; rfl
theorem g11U {α : Type} (m a1 a2 a3 b1 b2 b3 n1 : Nat) (u1 : List Int) (n2 : Nat) (u2 : List Int) (k : Bool → Option α) : g11 m a1 a2 a3 b1 b2 b3 n1 u1 n2 u2 k =
    g35 m a1 a2 a3 b1 b2 b3 1048576 n1 u1 n2 u2 (fun x => cond (decide (x < 0)) (k true) (g37 m a1 a2 a3 b1 b2 b3 n1 u1 n2 u2 (fun p1 p2 => g76 m 0 a2 a2 0 b2 b2 a2 p1 b2 p2 (fun r =>
      g37 m a1 a2 a3 b1 b2 b3 n1 u1 n2 u2 (fun p1 p2 => g41 m 0 a2 a2 0 b2 b2 a2 p1 b2 p2 (fun r' => cond (!(r' == r)) (k false)
      (g37 m a1 a2 a3 b1 b2 b3 n1 u1 n2 u2 (fun q1 q2 => g39 m 0 a2 a2 0 b2 b2 0 a2 a2 0 b2 b2 a2 p1 b2 p2 a2 q1 b2 q2 (fun r => cond (!r) (k false) (k true)))))))))) := by kernel_rfl
theorem law11 {α : Type} (m a3 b3 : Nat) {u1 u2 : List Int} (h1 : u1.length ≤ 9223372036854775807) (h2 : u2.length ≤ 9223372036854775807) (hm : 1048576 < m) (k : Bool → Option α) : g11 m 0 u1.length a3 0 u2.length b3 u1.length u1 u2.length u2 k = k true := by
  rw [g11U, show (1048576 : Int) = ((1048576 : Nat) : Int) from rfl, g35L m 0 a3 0 b3 (Nat.le_refl _) h1 h2]
  by_cases hul : u1.length + u2.length ≤ 1048576
  · have q1 : u1.length ≤ 1048576 := by omega
    have q2 : u2.length ≤ 1048576 := by omega
    rw [if_pos hul, dF (by omega), cond_false, g37L m _ _ q1 q2 hm, g76L m _ _ q1 q2 hm, g37L m _ _ q1 q2 hm, g41L m _ _ q1 q2 hm, beq_self_eq_true, Bool.not_true, cond_false, g37L m _ _ q1 q2 hm, g39T m _ _ _ _ q1 q2 hm, Bool.not_true, cond_false]
  · rw [if_neg hul, dT (by omega), cond_true]
def ap11 : List AP := [.st [.s (.int .i8), .s (.int .i8)]]
theorem law11m (m : Nat) (hm : 1048576 < m) (ls : List Lf) (hw : WA ap11 ls) : g11K (g11 m) ls (fun v _ _ => saysTrue v) = some () := by
  obtain ⟨⟨⟨a1, a2, a3, a4, a5, a6⟩, ⟨b1, b2, b3, b4, b5, b6⟩, _⟩, _⟩ := hw
  rw [maxLen_eq] at a4 b4
  unfold g11K
  have e0 : (lf ls 0).nat = 0 := a1
  have e3 : (lf ls 3).nat = 0 := b1
  have e1 : (lf ls 1).nat = ((lf ls 7).lst (.int .i8)).length := a5.symm
  have e4 : (lf ls 4).nat = ((lf ls 9).lst (.int .i8)).length := b5.symm
  have e6 : (lf ls 6).nat = (lf ls 1).nat := a2
  have e8 : (lf ls 8).nat = (lf ls 4).nat := b2
  have x1 : (lf ls 1).nat ≤ 9223372036854775807 := Nat.le_trans a3 a4
  have x2 : (lf ls 4).nat ≤ 9223372036854775807 := Nat.le_trans b3 b4
  rw [e1] at x1
  rw [e4] at x2
  rw [e6, e8, e0, e3, e1, e4]
  exact law11 m _ _ x1 x2 hm _
theorem law11' (ls : List Lf) (hw : WA ap11 ls) : g11K (g11 1048577) ls (fun v _ _ => saysTrue v) = some () := law11m 1048577 (by omega) ls hw
/-! ### DigitAt -/
theorem g80eq {α : Type} (m : Nat) (p : Int) (lo len cap lo' len' cap' n : Nat) (u : List Int) (n' : Nat) (v : List Int) (k : Int → Option α) : g80 m p lo len cap lo' len' cap' n u n' v k = g81 m lo len cap lo' len' cap' p n u n' v k := by kernel_rfl
theorem g81u {α : Type} (m lo len cap lo' len' cap' : Nat) (p : Int) (n : Nat) (u : List Int) (n' : Nat) (v : List Int) (k : Int → Option α) : g81 m lo len cap lo' len' cap' p n u n' v k =
    cond (decide (p < ((len : Nat) : Int))) (if 0 ≤ p ∧ p < (len : Nat) then (if (lo + p.toNat) < n then k (List.getD u (lo + p.toNat) 0) else none) else none)
      (if ((len' : Nat) : Int) = 0 then none else (if 0 ≤ Int.tmod (IntKind.wrap .i64 (p - ((len : Nat) : Int))) ((len' : Nat) : Int) ∧ Int.tmod (IntKind.wrap .i64 (p - ((len : Nat) : Int))) ((len' : Nat) : Int) < (len' : Nat) then
        (if (lo' + (Int.tmod (IntKind.wrap .i64 (p - ((len : Nat) : Int))) ((len' : Nat) : Int)).toNat) < n' then k (List.getD v (lo' + (Int.tmod (IntKind.wrap .i64 (p - ((len : Nat) : Int))) ((len' : Nat) : Int)).toNat) 0) else none) else none)) := by kernel_rfl
/-- the digit of a stream at an index -/
def atS (u v : List Int) (p : Nat) : Int := if p < u.length then List.getD u p 0 else List.getD v ((p - u.length) % v.length) 0
theorem g81L {α : Type} (m cap cap' : Nat) {u v : List Int} (hu : u.length ≤ 1048576) (hv : v.length ≤ 1048576) (hv0 : 1 ≤ v.length) {p : Nat} (hp : p ≤ 1000000000) (k : Int → Option α) :
    g81 m 0 u.length cap 0 v.length cap' (p : Int) u.length u v.length v k = k (atS u v p) := by
  rw [g81u]
  unfold atS
  by_cases h : p < u.length
  · rw [dT (by omega), cond_true, if_pos ⟨by omega, by omega⟩, Int.toNat_natCast, Nat.zero_add, if_pos h, if_pos h]
  · have hsub : (p : Int) - ((u.length : Nat) : Int) = ((p - u.length : Nat) : Int) := by omega
    have hlt : (p - u.length) % v.length < v.length := Nat.mod_lt _ (by omega)
    rw [dF (by omega), cond_false, if_neg (by omega), hsub, wrapI (by omega) (by omega), Int.tmod_eq_emod_of_nonneg (by omega), ← Int.natCast_emod, if_pos ⟨by omega, by omega⟩, Int.toNat_natCast, Nat.zero_add, if_pos hlt, if_neg h]
theorem g44u {α : Type} (m lo len cap lo' len' cap' : Nat) (p : Int) (n : Nat) (u : List Int) (n' : Nat) (v : List Int) (k : Int → Int → Option α) : g44 m lo len cap lo' len' cap' p n u n' v k =
    g76 m lo len cap lo' len' cap' n u n' v (fun r => cond (!r) (k 0 1) (g63 m p 0 1000000000 (fun r => cond (!r) (k 0 2) (g80 m p lo len cap lo' len' cap' n u n' v (fun x => k x 0))))) := by kernel_rfl
theorem g45u {α : Type} (m lo len cap lo' len' cap' : Nat) (p : Int) (n : Nat) (u : List Int) (n' : Nat) (v : List Int) (k : Int → Int → Option α) : g45 m lo len cap lo' len' cap' p n u n' v k =
    g41 m lo len cap lo' len' cap' n u n' v (fun r => cond (!r) (k 0 1) (g58 m p 0 1000000000 (fun r => cond (!r) (k 0 2) (g81 m lo len cap lo' len' cap' p n u n' v (fun x => k x 0))))) := by kernel_rfl
theorem okS_pos {u v : List Int} (h : okS u v = true) : u.length ≤ 16 ∧ 1 ≤ v.length ∧ v.length ≤ 14 ∧ Dgs u ∧ Dgs v := by
  simpa [okS] using h
theorem at_res (m cap cap' : Nat) {u v : List Int} (hu : u.length ≤ 1048576) (hv : v.length ≤ 1048576) (hm : 1048576 < m) (p : Int) : ∃ x y, (∀ {α : Type} (k : Int → Int → Option α), g44 m 0 u.length cap 0 v.length cap' p u.length u v.length v k = k x y) ∧
    (∀ {α : Type} (k : Int → Int → Option α), g45 m 0 u.length cap 0 v.length cap' p u.length u v.length v k = k x y) := by
  cases hok : okS u v
  · exact ⟨0, 1, fun k => by rw [g44u, g76L m _ _ hu hv hm, hok]; rfl, fun k => by rw [g45u, g41L m _ _ hu hv hm, hok]; rfl⟩
  · by_cases hp : 0 ≤ p ∧ p ≤ 1000000000
    · obtain ⟨q, rfl⟩ : ∃ q : Nat, p = (q : Int) := ⟨p.toNat, by omega⟩
      have hv0 := (okS_pos hok).2.1
      exact ⟨atS u v q, 0, fun k => by rw [g44u, g76L m _ _ hu hv hm, hok, Bool.not_true, cond_false, g63L, dT hp, Bool.not_true, cond_false, g80eq, g81L m _ _ hu hv hv0 (by omega)],
        fun k => by rw [g45u, g41L m _ _ hu hv hm, hok, Bool.not_true, cond_false, g58L, dT hp, Bool.not_true, cond_false, g81L m _ _ hu hv hv0 (by omega)]⟩
    · exact ⟨0, 2, fun k => by rw [g44u, g76L m _ _ hu hv hm, hok, Bool.not_true, cond_false, g63L, dF hp]; rfl, fun k => by rw [g45u, g41L m _ _ hu hv hm, hok, Bool.not_true, cond_false, g58L, dF hp]; rfl⟩
theorem g13U {α : Type} (m a1 a2 a3 b1 b2 b3 : Nat) (p : Int) (n1 : Nat) (u1 : List Int) (n2 : Nat) (u2 : List Int) (k : Bool → Option α) : g13 m a1 a2 a3 b1 b2 b3 p n1 u1 n2 u2 k =
    g35 m a1 a2 a3 b1 b2 b3 1048576 n1 u1 n2 u2 (fun x => cond (decide (x < 0)) (k true) (g37 m a1 a2 a3 b1 b2 b3 n1 u1 n2 u2 (fun p1 p2 => g44 m 0 a2 a2 0 b2 b2 p a2 p1 b2 p2 (fun x y =>
      g37 m a1 a2 a3 b1 b2 b3 n1 u1 n2 u2 (fun p1 p2 => g45 m 0 a2 a2 0 b2 b2 p a2 p1 b2 p2 (fun x' y' => cond (x' != x) (k false) (cond (y' != y) (k false)
      (g37 m a1 a2 a3 b1 b2 b3 n1 u1 n2 u2 (fun q1 q2 => g39 m 0 a2 a2 0 b2 b2 0 a2 a2 0 b2 b2 a2 p1 b2 p2 a2 q1 b2 q2 (fun r => cond (!r) (k false) (k true))))))))))) := by kernel_rfl
theorem law13 {α : Type} (m a3 b3 : Nat) (p : Int) {u1 u2 : List Int} (h1 : u1.length ≤ 9223372036854775807) (h2 : u2.length ≤ 9223372036854775807) (hm : 1048576 < m) (k : Bool → Option α) : g13 m 0 u1.length a3 0 u2.length b3 p u1.length u1 u2.length u2 k = k true := by
  rw [g13U, show (1048576 : Int) = ((1048576 : Nat) : Int) from rfl, g35L m 0 a3 0 b3 (Nat.le_refl _) h1 h2]
  by_cases hul : u1.length + u2.length ≤ 1048576
  · have q1 : u1.length ≤ 1048576 := by omega
    have q2 : u2.length ≤ 1048576 := by omega
    obtain ⟨x, y, e1, e2⟩ := at_res m u1.length u2.length q1 q2 hm p
    rw [if_pos hul, dF (by omega), cond_false, g37L m _ _ q1 q2 hm, e1, g37L m _ _ q1 q2 hm, e2, bne_self_eq_false, cond_false, bne_self_eq_false, cond_false, g37L m _ _ q1 q2 hm, g39T m _ _ _ _ q1 q2 hm, Bool.not_true, cond_false]
  · rw [if_neg hul, dT (by omega), cond_true]
def ap13 : List AP := [.st [.s (.int .i8), .s (.int .i8)], .flat (.vl (.sv (.int .i64)))]
theorem law13m (m : Nat) (hm : 1048576 < m) (ls : List Lf) (hw : WA ap13 ls) : g13K (g13 m) ls (fun v _ _ => saysTrue v) = some () := by
  obtain ⟨⟨⟨a1, a2, a3, a4, a5, a6⟩, ⟨b1, b2, b3, b4, b5, b6⟩, _⟩, _⟩ := hw
  rw [maxLen_eq] at a4 b4
  unfold g13K
  have e0 : (lf ls 0).nat = 0 := a1
  have e3 : (lf ls 3).nat = 0 := b1
  have e1 : (lf ls 1).nat = ((lf ls 8).lst (.int .i8)).length := a5.symm
  have e4 : (lf ls 4).nat = ((lf ls 10).lst (.int .i8)).length := b5.symm
  have e6 : (lf ls 7).nat = (lf ls 1).nat := a2
  have e8 : (lf ls 9).nat = (lf ls 4).nat := b2
  have x1 : (lf ls 1).nat ≤ 9223372036854775807 := Nat.le_trans a3 a4
  have x2 : (lf ls 4).nat ≤ 9223372036854775807 := Nat.le_trans b3 b4
  rw [e1] at x1
  rw [e4] at x2
  rw [e6, e8, e0, e3, e1, e4]
  exact law13 m _ _ _ x1 x2 hm _
theorem law13' (ls : List Lf) (hw : WA ap13 ls) : g13K (g13 1048577) ls (fun v _ _ => saysTrue v) = some () := law13m 1048577 (by omega) ls hw
end Go.Proofs.Ytbpljilgekneoaa.Sx
