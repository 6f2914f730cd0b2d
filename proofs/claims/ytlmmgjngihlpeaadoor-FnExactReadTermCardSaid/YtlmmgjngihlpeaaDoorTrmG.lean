/- Plain laws: the base of terms at this seat (from TermC, TermD by askw.py). Our own work. -/
import Derived.Test.YtlmmgjngihlpeaaDoorTxtE
namespace Go.Proofs.YtlmmgjngihlpeaaDoor.Sx
open Go
set_option linter.unusedVariables false
set_option linter.unusedSimpArgs false
set_option maxRecDepth 100000
theorem five {x : List Int} (h : x.length = 5) : [x.headD 0, x.tail.headD 0, x.tail.tail.headD 0, x.tail.tail.tail.headD 0, x.tail.tail.tail.tail.headD 0] = x := by
  match x, h with
  | [a, b, c, d, e], _ => rfl
structure Row5 (u : List (List Int)) : Prop where
  len : u.length ≤ 1048576
  five : ∀ x ∈ u, x.length = 5
theorem Row5.at {u : List (List Int)} (h : Row5 u) {i : Nat} (hi : i < u.length) : (u[i]'hi).length = 5 := h.five _ (List.getElem_mem hi)
def OkN (kd a b p q v : Int) : Prop :=
  (kd = 1 ∧ a = 0 ∧ b = 0 ∧ -1000000000 ≤ p ∧ p ≤ 1000000000 ∧ 1 ≤ q ∧ q ≤ 1000000000) ∨
  ((2 ≤ kd ∧ kd ≤ 5 ∨ kd = 8 ∨ kd = 9) ∧ 0 ≤ a ∧ a < v ∧ 0 ≤ b ∧ b < v ∧ p = 0 ∧ q = 0) ∨
  ((kd = 6 ∨ kd = 7 ∨ kd = 10) ∧ 0 ≤ a ∧ a < v ∧ b = 0 ∧ p = 0 ∧ q = 0) ∨
  ((kd = 11 ∨ kd = 12) ∧ a = 0 ∧ b = 0 ∧ p = 0 ∧ q = 0)
theorem g111L {α : Type} (m : Nat) (x lo hi : Int) (k : Bool → Option α) : g111 m x lo hi k = k (decide (lo ≤ x ∧ x ≤ hi)) := by
  show cond (decide (x ≥ lo)) (k (decide (x ≤ hi))) (k false) = _
  rw [cond_k]; congr 1
  by_cases h1 : x ≥ lo <;> by_cases h2 : x ≤ hi <;> simp [h1, h2]
theorem g76L {α : Type} (m : Nat) (x lo hi : Int) (k : Bool → Option α) : g76 m x lo hi k = k (decide (lo ≤ x ∧ x ≤ hi)) := g111L m x lo hi k
def two (kd : Int) : Bool := decide (2 ≤ kd ∧ kd ≤ 5 ∨ kd = 8 ∨ kd = 9)
def one1 (kd : Int) : Bool := decide (kd = 6 ∨ kd = 7 ∨ kd = 10)
theorem g105L {α : Type} (m : Nat) (x : Int) (k : Bool → Option α) : g105 m x k = k (one1 x) := by
  show cond (x == 6) (k true) (cond (x == 7) (k true) (k (x == 10))) = _
  rw [cond_k, cond_k]; congr 1
  rw [Bool.eq_iff_iff]
  by_cases h1 : x = 6 <;> by_cases h2 : x = 7 <;> by_cases h3 : x = 10 <;> simp [h1, h2, h3, one1]
theorem g106L {α : Type} (m : Nat) (x : Int) (k : Bool → Option α) : g106 m x k = k (two x) := by
  show cond (decide (x ≥ 2)) (cond (decide (x ≤ 5)) (k true) (cond (x == 8) (k true) (k (x == 9)))) (cond (x == 8) (k true) (k (x == 9))) = _
  simp only [cond_k k]; congr 1
  by_cases h1 : x ≥ 2 <;> by_cases h2 : x ≤ 5 <;> by_cases h3 : x = 8 <;> by_cases h4 : x = 9 <;> simp [h1, h2, h3, h4, two] <;> omega
theorem g80L {α : Type} (m : Nat) {x : Int} (h1 : -32768 ≤ x) (h2 : x ≤ 32767) (v : Int) (u : Bool) (k : Bool → Option α) : g80 m x v u k = k (cond u (decide (0 ≤ x ∧ x < v)) (decide (x = 0))) := by
  show cond (!u) (k (x == 0)) (cond (decide (x ≥ 0)) (k (decide (IntKind.wrap .i64 x < v))) (k false)) = _
  rw [wrapI (by omega) (by omega)]
  simp only [cond_k k]; congr 1
  cases u
  · by_cases h : x = 0 <;> simp [h]
  · by_cases h : x ≥ 0 <;> by_cases h' : x < v <;> simp [h, h']
theorem g79L {α : Type} (m : Nat) (kd p q : Int) (k : Bool → Option α) : g79 m kd p q k = k (decide (kd = 1 ∧ -1000000000 ≤ p ∧ p ≤ 1000000000 ∧ 1 ≤ q ∧ q ≤ 1000000000 ∨ kd ≠ 1 ∧ p = 0 ∧ q = 0)) := by
  show cond (kd == 1) (g111 m p (-1000000000) 1000000000 (fun b => cond b (g111 m q 1 1000000000 (fun b => k b)) (k false))) (cond (p == 0) (k (q == 0)) (k false)) = _
  rw [g111L, g111L]
  simp only [cond_k k]; congr 1
  rw [Bool.eq_iff_iff]
  by_cases h : kd = 1
  · subst h; simp [Bool.cond_eq_ite]; omega
  · by_cases h1 : p = 0 <;> by_cases h2 : q = 0 <;> simp [h, h1, h2]
theorem g74L {α : Type} (m : Nat) (kd : Int) (k : Bool → Bool → Bool → Option α) : g74 m kd k = k (two kd || one1 kd) (two kd) (decide (kd = 1)) := by
  show cond (kd == 1) (k false false true) (cond (kd == 2) (k true true false) (cond (kd == 3) (k true true false) (cond (kd == 4) (k true true false) (cond (kd == 5) (k true true false) (cond (kd == 8) (k true true false) (cond (kd == 9) (k true true false)
    (cond (kd == 6) (k true false false) (cond (kd == 7) (k true false false) (cond (kd == 10) (k true false false) (k false false false)))))))))) = _
  by_cases h : 1 ≤ kd ∧ kd ≤ 10
  · have : kd = 1 ∨ kd = 2 ∨ kd = 3 ∨ kd = 4 ∨ kd = 5 ∨ kd = 6 ∨ kd = 7 ∨ kd = 8 ∨ kd = 9 ∨ kd = 10 := by omega
    rcases this with rfl | rfl | rfl | rfl | rfl | rfl | rfl | rfl | rfl | rfl <;> rfl
  · have hb : ∀ c : Int, 1 ≤ c → c ≤ 10 → (kd == c) = false := fun c h1 h2 => by
      have : kd ≠ c := by omega
      simpa using this
    rw [hb 1 (by omega) (by omega), hb 2 (by omega) (by omega), hb 3 (by omega) (by omega), hb 4 (by omega) (by omega), hb 5 (by omega) (by omega), hb 6 (by omega) (by omega), hb 7 (by omega) (by omega), hb 8 (by omega) (by omega), hb 9 (by omega) (by omega), hb 10 (by omega) (by omega)]
    have h1 : two kd = false := dF (by omega)
    have h2 : one1 kd = false := dF (by omega)
    have h3 : decide (kd = 1) = false := dF (by omega)
    rw [h1, h2, h3]; rfl
theorem implNode {α : Type} (m : Nat) (v : Int) {kd a b p q : Int} (ha : -32768 ≤ a ∧ a ≤ 32767) (hb : -32768 ≤ b ∧ b ≤ 32767) (K : Bool → Option α) (hok : Decidable (OkN kd a b p q v)) :
    g74 m kd (fun b1 b2 b3 => cond (decide (kd < 1)) (K false) (cond (decide (kd > 12)) (K false) (g79 m kd p q (fun r => cond (!r) (K false) (g80 m a v b1 (fun r => cond (!r) (K false) (g80 m b v b2 (fun r => cond (!r) (K false) (K true))))))))) =
      K (@decide (OkN kd a b p q v) hok) := by
  rw [g74L, g79L, g80L m ha.1 ha.2, g80L m hb.1 hb.2]
  simp only [cond_k K]; congr 1
  by_cases h : 1 ≤ kd ∧ kd ≤ 12
  · have : kd = 1 ∨ kd = 2 ∨ kd = 3 ∨ kd = 4 ∨ kd = 5 ∨ kd = 6 ∨ kd = 7 ∨ kd = 8 ∨ kd = 9 ∨ kd = 10 ∨ kd = 11 ∨ kd = 12 := by omega
    rw [dF (show ¬ kd < 1 by omega), dF (show ¬ kd > 12 by omega), cond_false, cond_false, Bool.eq_iff_iff]
    rcases this with rfl | rfl | rfl | rfl | rfl | rfl | rfl | rfl | rfl | rfl | rfl | rfl <;> simp [OkN, two, one1, Bool.cond_eq_ite] <;> omega
  · have hn : ¬ OkN kd a b p q v := by unfold OkN; omega
    rw [decide_eq_false hn]
    by_cases h1 : kd < 1
    · rw [dT h1]; rfl
    · rw [dF h1, dT (show kd > 12 by omega)]; rfl
theorem specNode {α : Type} (m : Nat) {i : Nat} {v : Int} (hv : 0 ≤ v ∧ v ≤ 2000000) {u : List (List Int)} (hi : i < u.length) {kd a b p q : Int} (hx : List.getD u i [] = [kd, a, b, p, q]) (ha : -32768 ≤ a ∧ a ≤ 32767) (hb : -32768 ≤ b ∧ b ≤ 32767)
    (K : Bool → Option α) (hok : Decidable (OkN kd a b p q v)) : g77v1 m i v u K = K (@decide (OkN kd a b p q v) hok) := by
  unfold g77v1 g77v1b
  simp only [if_pos hi, hx, List.headD_cons, List.tail_cons, g105L, g106L, g76L, wrapI (show -9223372036854775808 ≤ a by omega) (by omega), wrapI (show -9223372036854775808 ≤ b by omega) (by omega), wrapI (show -9223372036854775808 ≤ v - (1 : Int) by omega) (by omega), cond_k K]
  congr 1
  by_cases h : 1 ≤ kd ∧ kd ≤ 12
  · have : kd = 1 ∨ kd = 2 ∨ kd = 3 ∨ kd = 4 ∨ kd = 5 ∨ kd = 6 ∨ kd = 7 ∨ kd = 8 ∨ kd = 9 ∨ kd = 10 ∨ kd = 11 ∨ kd = 12 := by omega
    rw [dF (show ¬ kd < 1 by omega), dF (show ¬ kd > 12 by omega), cond_false, cond_false, Bool.eq_iff_iff]
    rcases this with rfl | rfl | rfl | rfl | rfl | rfl | rfl | rfl | rfl | rfl | rfl | rfl <;> simp [OkN, two, one1, Bool.cond_eq_ite] <;> omega
  · have hn : ¬ OkN kd a b p q v := by unfold OkN; omega
    rw [decide_eq_false hn]
    by_cases h1 : kd < 1
    · rw [dT h1]; rfl
    · rw [dF h1, dT (show kd > 12 by omega)]; rfl
theorem nodeV {α : Type} (m : Nat) {v : Int} (hv : 0 ≤ v ∧ v ≤ 2000000) {kd a b p q : Int} (ha : -32768 ≤ a ∧ a ≤ 32767) (hb : -32768 ≤ b ∧ b ≤ 32767)
    (K : Bool → Option α) (hok : Decidable (OkN kd a b p q v)) : g77 m v kd a b p q K = K (@decide (OkN kd a b p q v) hok) := by
  unfold g77 g77b
  simp only [g105L, g106L, g76L, wrapI (show -9223372036854775808 ≤ a by omega) (by omega), wrapI (show -9223372036854775808 ≤ b by omega) (by omega), wrapI (show -9223372036854775808 ≤ v - (1 : Int) by omega) (by omega), cond_k K]
  congr 1
  by_cases h : 1 ≤ kd ∧ kd ≤ 12
  · have : kd = 1 ∨ kd = 2 ∨ kd = 3 ∨ kd = 4 ∨ kd = 5 ∨ kd = 6 ∨ kd = 7 ∨ kd = 8 ∨ kd = 9 ∨ kd = 10 ∨ kd = 11 ∨ kd = 12 := by omega
    rw [dF (show ¬ kd < 1 by omega), dF (show ¬ kd > 12 by omega), cond_false, cond_false, Bool.eq_iff_iff]
    rcases this with rfl | rfl | rfl | rfl | rfl | rfl | rfl | rfl | rfl | rfl | rfl | rfl <;> simp [OkN, two, one1, Bool.cond_eq_ite] <;> omega
  · have hn : ¬ OkN kd a b p q v := by unfold OkN; omega
    rw [decide_eq_false hn]
    by_cases h1 : kd < 1
    · rw [dT h1]; rfl
    · rw [dF h1, dT (show kd > 12 by omega)]; rfl
structure RowN (u : List (List Int)) : Prop extends Row5 u where
  parts : ∀ x ∈ u, ∃ kd a b p q, x = [kd, a, b, p, q] ∧ (-32768 ≤ a ∧ a ≤ 32767) ∧ (-32768 ≤ b ∧ b ≤ 32767) ∧ (-128 ≤ kd ∧ kd ≤ 127) ∧ (-9223372036854775808 ≤ p ∧ p ≤ 9223372036854775807) ∧ (-9223372036854775808 ≤ q ∧ q ≤ 9223372036854775807)
def OkFrom (u : List (List Int)) (i : Nat) : Prop := ∀ j, i ≤ j → j < u.length → OkN ((List.getD u j []).headD 0) ((List.getD u j []).tail.headD 0) ((List.getD u j []).tail.tail.headD 0) ((List.getD u j []).tail.tail.tail.headD 0) ((List.getD u j []).tail.tail.tail.tail.headD 0) j
theorem okFrom_step {u : List (List Int)} {i : Nat} (hi : i < u.length) : OkFrom u i ↔ OkN ((List.getD u i []).headD 0) ((List.getD u i []).tail.headD 0) ((List.getD u i []).tail.tail.headD 0) ((List.getD u i []).tail.tail.tail.headD 0) ((List.getD u i []).tail.tail.tail.tail.headD 0) i ∧ OkFrom u (i + 1) := by
  constructor
  · intro h; exact ⟨h i (Nat.le_refl _) hi, fun j h1 h2 => h j (by omega) h2⟩
  · rintro ⟨h1, h2⟩ j hj hl
    by_cases e : j = i
    · subst e; exact h1
    · exact h2 j (by omega) hl
open Classical in
theorem g37s {α : Type} (q : Nat) (u : List (List Int)) (kF kT : Option α) (m : Nat) (v : Int) : g37l0 (g77v1 q) u kF kT (m + 1) v =
    cond (decide (v < ((u.length : Nat) : Int))) (if 0 ≤ v ∧ v < (u.length : Nat) then g77v1 q v.toNat v u (fun b => cond (!b) kF (g37l0 (g77v1 q) u kF kT m (IntKind.wrap .i64 (v + (1 : Int))))) else none) kT := by kernel_rfl
open Classical in
theorem g37loop {α : Type} (q cap : Nat) {u : List (List Int)} (hu : RowN u) (kF kT : Option α) : ∀ (d i m : Nat), i + d = u.length → d < m →
    g37l0 (g77v1 q) u kF kT m (i : Int) = cond (decide (OkFrom u i)) kT kF
  | 0, i, m, hi, hm => by
    obtain ⟨m, rfl⟩ : ∃ n, m = n + 1 := ⟨m - 1, by omega⟩
    rw [g37s, dF (by omega), cond_false, decide_eq_true (show OkFrom u i from fun j h1 h2 => by omega), cond_true]
  | d + 1, i, m, hi, hm => by
    obtain ⟨m, rfl⟩ : ∃ n, m = n + 1 := ⟨m - 1, by omega⟩
    have hlen := hu.len
    have h1 : i < u.length := by omega
    obtain ⟨kd, a, b, p, r, hx, ha, hb, _⟩ := hu.parts _ (List.getElem_mem h1)
    have hg : List.getD u i [] = [kd, a, b, p, r] := by rw [getD_at u [] h1, hx]
    rw [g37s, dT (show (i : Int) < ((u.length : Nat) : Int) by omega), cond_true, if_pos ⟨by omega, by omega⟩, Int.toNat_natCast, specNode q (hi := h1) ⟨by omega, by omega⟩ hg ha hb _ (Classical.propDecidable _), wrapS (by omega), g37loop q cap hu kF kT d (i + 1) m (by omega) (by omega)]
    refine cond_dec (p := OkFrom u i) ?_ kT kF
    rw [okFrom_step h1, hg]; rfl
open Classical in
theorem g37L {α : Type} (m cap : Nat) {u : List (List Int)} (hu : RowN u) (hm : u.length < m) (k : Bool → Option α) : g37 m u k = k (decide ((1 ≤ u.length ∧ u.length ≤ 40) ∧ OkFrom u 0)) := by
  show g76 m ((u.length : Nat) : Int) 1 40 (fun b => cond (!b) (k false) (g37l0 (g77v1 m) u (k false) (k true) m ((0 : Nat) : Int))) = _
  rw [g76L, g37loop m cap hu _ _ u.length 0 m (by omega) hm]
  by_cases h1 : 1 ≤ u.length ∧ u.length ≤ 40
  · rw [dT (by omega), Bool.not_true, cond_false]
    by_cases h2 : OkFrom u 0 <;> simp [h1, h2]
  · rw [dF (by omega), Bool.not_false, cond_true, decide_eq_false (fun h => h1 h.1)]
open Classical in
theorem g40s {α : Type} (q : Nat) (w : Int) (u : List (List Int)) (kF kT : Option α) (m : Nat) (v : Int) : g40l0 (g74 q) (g79 q) (g80 q) w u kF kT (m + 1) v =
    cond (decide (v < w)) (if 0 ≤ v ∧ v < (u.length : Nat) then (if v.toNat < u.length then
      g74 q ((List.getD u v.toNat []).headD 0) (fun b1 b2 b3 => cond (decide ((List.getD u v.toNat []).headD 0 < 1)) kF (cond (decide ((List.getD u v.toNat []).headD 0 > 12)) kF
        (g79 q ((List.getD u v.toNat []).headD 0) ((List.getD u v.toNat []).tail.tail.tail.headD 0) ((List.getD u v.toNat []).tail.tail.tail.tail.headD 0) (fun r => cond (!r) kF
          (g80 q ((List.getD u v.toNat []).tail.headD 0) v b1 (fun r => cond (!r) kF (g80 q ((List.getD u v.toNat []).tail.tail.headD 0) v b2 (fun r => cond (!r) kF
            (g40l0 (g74 q) (g79 q) (g80 q) w u kF kT m (IntKind.wrap .i64 (v + (1 : Int)))))))))))) else none) else none) kT := by kernel_rfl
open Classical in
theorem g40loop {α : Type} (q cap : Nat) {u : List (List Int)} (hu : RowN u) (kF kT : Option α) : ∀ (d i m : Nat), i + d = u.length → d < m →
    g40l0 (g74 q) (g79 q) (g80 q) ((u.length : Nat) : Int) u kF kT m (i : Int) = cond (decide (OkFrom u i)) kT kF
  | 0, i, m, hi, hm => by
    obtain ⟨m, rfl⟩ : ∃ n, m = n + 1 := ⟨m - 1, by omega⟩
    rw [g40s, dF (by omega), cond_false, decide_eq_true (show OkFrom u i from fun j h1 h2 => by omega), cond_true]
  | d + 1, i, m, hi, hm => by
    obtain ⟨m, rfl⟩ : ∃ n, m = n + 1 := ⟨m - 1, by omega⟩
    have hlen := hu.len
    have h1 : i < u.length := by omega
    obtain ⟨kd, a, b, p, r, hx, ha, hb, _⟩ := hu.parts _ (List.getElem_mem h1)
    have hg : List.getD u i [] = [kd, a, b, p, r] := by rw [getD_at u [] h1, hx]
    rw [g40s, dT (show (i : Int) < ((u.length : Nat) : Int) by omega), cond_true, if_pos ⟨by omega, by omega⟩, Int.toNat_natCast, if_pos h1, wrapS (by omega), g40loop q cap hu kF kT d (i + 1) m (by omega) (by omega)]
    have hcd := cond_dec (p := OkFrom u i) (okFrom_step h1) kT kF
    rw [hg] at hcd ⊢
    exact (implNode q (i : Int) ha hb (fun b => cond (!b) kF (cond (decide (OkFrom u (i + 1))) kT kF)) (Classical.propDecidable _)).trans hcd
open Classical in
theorem g40L {α : Type} (m cap : Nat) {u : List (List Int)} (hu : RowN u) (hm : u.length < m) (k : Bool → Option α) : g40 m u k = k (decide ((1 ≤ u.length ∧ u.length ≤ 40) ∧ OkFrom u 0)) := by
  show cond (decide (((u.length : Nat) : Int) < 1)) (k false) (cond (decide (((u.length : Nat) : Int) > 40)) (k false) (g40l0 (g74 m) (g79 m) (g80 m) ((u.length : Nat) : Int) u (k false) (k true) m ((0 : Nat) : Int))) = _
  rw [g40loop m cap hu _ _ u.length 0 m (by omega) hm]
  by_cases h1 : 1 ≤ u.length ∧ u.length ≤ 40
  · rw [dF (by omega), dF (by omega), cond_false, cond_false]
    by_cases h2 : OkFrom u 0 <;> simp [h1, h2]
  · rw [decide_eq_false (p := (1 ≤ u.length ∧ u.length ≤ 40) ∧ OkFrom u 0) (fun h => h1 h.1)]
    by_cases h2 : u.length < 1
    · rw [dT (by omega), cond_true]
    · rw [dF (by omega), cond_false, dT (by omega), cond_true]
theorem g45T {α : Type} (q : Nat) (x : List Int) (k : Bool → Option α) : g45 q (x.headD 0) (x.tail.headD 0) (x.tail.tail.headD 0) (x.tail.tail.tail.headD 0) (x.tail.tail.tail.tail.headD 0)
    (x.headD 0) (x.tail.headD 0) (x.tail.tail.headD 0) (x.tail.tail.tail.headD 0) (x.tail.tail.tail.tail.headD 0) k = k true := by
  rw [g45_o]; simp only [bne_self_eq_false, cond_false]
theorem g11v1T {α : Type} (m : Nat) (u : List (List Int)) (hn : u.length ≤ 1048576) (hm : 1048576 < m) (k : Bool → Option α) : g11v1 m u u k = k true := by
  rw [g11v1_o, bne_self_eq_false, cond_false]
  have := loopR (fun m' i => g11v1l0 (g45 m) u u (k false) (k true) m' (i : Int)) (fun _ => k true) u.length (fun m' => ?_) (fun m' i hi h => ?_) u.length 0 m (by omega) (by omega)
  · simpa using this
  · rw [g11v1l0_s, dF (by omega), cond_false]
  · rw [g11v1l0_s, dT (by omega), cond_true, if_pos (cast_lt hi), Int.toNat_natCast, if_pos hi, if_pos (cast_lt hi), if_pos hi, g45T, Bool.not_true, cond_false, wrapS (by omega), h]
def markN (p : Int) (i : Nat) : List Int := [IntKind.wrap .i8 (p + 5 * (i : Int)), IntKind.wrap .i16 (p + 5 * (i : Int) + 1), IntKind.wrap .i16 (p + 5 * (i : Int) + 1 + 1), p + 5 * (i : Int) + 1 + 1 + 1, p + 5 * (i : Int) + 1 + 1 + 1 + 1]
def marksN (p : Int) (n : Nat) : List (List Int) := (List.range n).map (markN p)
theorem marksN_length (p : Int) (n : Nat) : (marksN p n).length = n := by simp [marksN]
theorem marksN_at (p : Int) {n i : Nat} (h : i < n) : (marksN p n)[i]'(by rw [marksN_length]; exact h) = markN p i := by simp [marksN]
theorem markL {α : Type} (m n : Nat) {u : List (List Int)} (hn : u.length = n) (hlen : n ≤ 1048576) (hm : 1048576 < m) {p : Int} (h0 : 0 ≤ p) (h1 : p ≤ 1099511627776) (k : Int → List (List Int) → Option α) :
    g35v1 m p u k = k (p + 5 * n) (marksN p n) := by
  rw [g35v1_o]
  have := loopR (fun m i => g35v1l0 (fun x l => k x l) m (p + 5 * (i : Int)) (i : Int) ((marksN p n).take i ++ u.drop i)) (fun i => k (p + 5 * n) (marksN p n)) n (fun m => ?_) (fun m i hi h => ?_) n 0 m (by omega) (by omega)
  · simpa using this
  · rw [g35v1l0_s, List.drop_eq_nil_of_le (by omega), List.append_nil, List.take_of_length_le (by rw [marksN_length]; omega), marksN_length, dF (by omega), cond_false]
  · have hl : ((marksN p n).take i ++ u.drop i).length = n := by rw [List.length_append, List.length_take, List.length_drop, marksN_length]; omega
    rw [g35v1l0_s, hl, dT (by omega), cond_true]
    have hgs : ∀ x, List.getD (((marksN p n).take i ++ u.drop i).set i x) i [] = x := fun x => getD_set_at _ _ _ (by omega)
    dsimp only
    simp only [Int.toNat_natCast, List.length_set, hl, if_pos (cast_lt hi), if_pos hi, hgs, List.set_set, List.headD_cons, List.tail_cons]
    rw [wrapI (x := p + 5 * (i : Int) + 1) (by omega) (by omega), wrapI (x := p + 5 * (i : Int) + 1 + 1) (by omega) (by omega), wrapI (x := p + 5 * (i : Int) + 1 + 1 + 1) (by omega) (by omega),
      wrapI (x := p + 5 * (i : Int) + 1 + 1 + 1 + 1) (by omega) (by omega), wrapI (x := p + 5 * (i : Int) + 1 + 1 + 1 + 1 + 1) (by omega) (by omega), wrapS (by omega)]
    have e := marksN_at p hi
    unfold markN at e
    rw [← e, set_over _ _ (by rw [marksN_length]; exact hi) (by rw [marksN_length, hn]), ← h]
    congr 1
    omega
theorem heldL {α : Type} (m n : Nat) (hlen : n ≤ 1048576) (hm : 1048576 < m) {p : Int} (h0 : 0 ≤ p) (h1 : p ≤ 1099511627776) (k : Int → Option α) : g36v1 m p (marksN p n) k = k (p + 5 * n) := by
  rw [g36v1_o]
  have := loopR (fun m i => g36v1l0 (marksN p n) (k (-1)) (fun x => k x) m (p + 5 * (i : Int)) (i : Int)) (fun i => k (p + 5 * n)) n (fun m => ?_) (fun m i hi h => ?_) n 0 m (by omega) (by omega)
  · simpa using this
  · rw [g36v1l0_s, marksN_length, dF (by omega), cond_false]
  · rw [g36v1l0_s, marksN_length, dT (by omega), cond_true]
    have hg : List.getD (marksN p n) i [] = markN p i := by rw [getD_at _ _ (by rw [marksN_length]; exact hi), marksN_at p hi]
    dsimp only
    simp only [Int.toNat_natCast, if_pos (cast_lt hi), if_pos hi, hg]
    unfold markN
    rw [wrapI (x := p + 5 * (i : Int) + 1) (by omega) (by omega), wrapI (x := p + 5 * (i : Int) + 1 + 1) (by omega) (by omega), wrapI (x := p + 5 * (i : Int) + 1 + 1 + 1) (by omega) (by omega),
      wrapI (x := p + 5 * (i : Int) + 1 + 1 + 1 + 1) (by omega) (by omega), wrapI (x := p + 5 * (i : Int) + 1 + 1 + 1 + 1 + 1) (by omega) (by omega), wrapS (by omega)]
    simp only [List.headD_cons, List.tail_cons, bne_self_eq_false, cond_false]
    rw [← h]
    congr 1
    omega
end Go.Proofs.YtlmmgjngihlpeaaDoor.Sx
