/- Plain laws: the base of terms at this seat (AskW, over TxtE). Our own work. -/
import Derived.Test.YtlmmgjngihlpeaaDoorTxtE
namespace Go.Proofs.YtlmmgjngihlpeaaDoor.Sx
open Go
set_option linter.unusedVariables false
set_option linter.unusedSimpArgs false
set_option maxRecDepth 100000
theorem five {x : List Int} (h : x.length = 5) : [x.headD 0, x.tail.headD 0, x.tail.tail.headD 0, x.tail.tail.tail.headD 0, x.tail.tail.tail.tail.headD 0] = x := by
  match x, h with
  | [a, b, c, d, e], _ => rfl
structure Row5 (u : List (List Int)) : Prop where
  len : u.length ≤ 1048576
  five : ∀ x ∈ u, x.length = 5
theorem Row5.at {u : List (List Int)} (h : Row5 u) {i : Nat} (hi : i < u.length) : (u[i]'hi).length = 5 := h.five _ (List.getElem_mem hi)
theorem g9s {α : Type} (q lo len cap lo' len' cap' n : Nat) (u : List (List Int)) (n' : Nat) (k : List (List Int) → Option α) (m : Nat) (v : Int) (l : List (List Int)) : g9l0 (g39 q) lo len cap lo' len' cap' n u n' k (m + 1) v l =
    cond (decide (v < ((len : Nat) : Int))) (if 0 ≤ v ∧ v < (len : Nat) then (if (lo + v.toNat) < n then (if 0 ≤ v ∧ v < (len' : Nat) then (if (lo' + v.toNat) < n' then
      g9l0 (g39 q) lo len cap lo' len' cap' n u n' k m (IntKind.wrap .i64 (v + (1 : Int))) (List.set l (lo' + v.toNat) [(List.getD u (lo + v.toNat) []).headD 0, (List.getD u (lo + v.toNat) []).tail.headD 0, (List.getD u (lo + v.toNat) []).tail.tail.headD 0,
        (List.getD u (lo + v.toNat) []).tail.tail.tail.headD 0, (List.getD u (lo + v.toNat) []).tail.tail.tail.tail.headD 0]) else none) else none) else none) else none) (k l) := by kernel_rfl
theorem g9u {α : Type} (m lo len cap n : Nat) (u : List (List Int)) (k : List (List Int) → Option α) : g9 m lo len cap n u k =
    if ((len : Nat) : Int) = ((len : Nat) : Int) ∧ 0 ≤ ((len : Nat) : Int) ∧ ((len : Nat) : Int) ≤ 1048576 then g9l0 (g39 m) lo len cap 0 len len n u len k m ((0 : Nat) : Int) (List.replicate len []) else none := by kernel_rfl
theorem g9loop {α : Type} (q cap : Nat) {u : List (List Int)} (hu : Row5 u) (k : List (List Int) → Option α) : ∀ (d i m : Nat), i + d = u.length → d < m →
    g9l0 (g39 q) 0 u.length cap 0 u.length u.length u.length u u.length k m (i : Int) (u.take i ++ List.replicate d []) = k u
  | 0, i, m, hi, hm => by
    obtain ⟨m, rfl⟩ : ∃ n, m = n + 1 := ⟨m - 1, by omega⟩
    rw [g9s, dF (by omega), cond_false, List.take_of_length_le (by omega)]; simp
  | d + 1, i, m, hi, hm => by
    obtain ⟨m, rfl⟩ : ∃ n, m = n + 1 := ⟨m - 1, by omega⟩
    have hlen := hu.len
    rw [g9s, dT (show (i : Int) < ((u.length : Nat) : Int) by omega), cond_true, if_pos ⟨by omega, by omega⟩, Int.toNat_natCast, Nat.zero_add, if_pos (show i < u.length by omega), if_pos ⟨by omega, by omega⟩,
      if_pos (show i < u.length by omega), getD_at u [] (show i < u.length by omega), five (hu.at _), set_step u [] hi, wrapS (by omega)]
    exact g9loop q cap hu k d (i + 1) m (by omega) (by omega)
theorem g9L {α : Type} (m cap : Nat) {u : List (List Int)} (hu : Row5 u) (hm : u.length < m) (k : List (List Int) → Option α) : g9 m 0 u.length cap u.length u k = k u := by
  have hlen := hu.len
  rw [g9u, if_pos ⟨rfl, by omega, by omega⟩]
  exact g9loop m cap hu k u.length 0 m (by omega) hm
theorem g7u {α : Type} (m a len cap : Nat) (p : Int) (n : Nat) (u : List (List Int)) (k : Int → Option α) : g7 m a len cap p n u k =
    cond (decide (IntKind.wrap .i64 (p - ((len : Nat) : Int)) < (0 : Int))) (k (-1)) (k (IntKind.wrap .i64 (p - ((len : Nat) : Int)))) := by kernel_rfl
theorem g7L {α : Type} (m a cap : Nat) (u : List (List Int)) {p : Nat} (hp : p ≤ 1048576) (hl : u.length ≤ 9223372036854775807) (k : Int → Option α) : g7 m a u.length cap (p : Int) u.length u k = k (if u.length ≤ p then ((p - u.length : Nat) : Int) else -1) := by
  rw [g7u, wrapI (by omega) (by omega)]
  by_cases h : u.length ≤ p
  · rw [dF (by omega), cond_false, if_pos h]; congr 1; omega
  · rw [dT (by omega), cond_true, if_neg h]
theorem row5_of {len : Nat} {u : List (List Int)} (hw : EK.Ws (.rc [.i8, .i16, .i16, .i64, .i64]) u) (hl : u.length ≤ 1048576) : Row5 u := by
  refine ⟨hl, fun x hx => ?_⟩
  have := hw x hx
  have h2 : ∀ (ks : List IntKind) (l : List Int), WfL ks l → l.length = ks.length := by
    intro ks
    induction ks with
    | nil => intro l h; cases l with
      | nil => rfl
      | cons _ _ => exact h.elim
    | cons k ks ih => intro l h; cases l with
      | nil => exact h.elim
      | cons a l => simp [ih l h.2]
  exact h2 _ _ this
theorem row5_len {u : List (List Int)} (hw : EK.Ws (.rc [.i8, .i16, .i16, .i64, .i64]) u) (hl : u.length ≤ 1048576) : Row5 u := row5_of (len := 0) hw hl
def OkN (kd a b p q v : Int) : Prop :=
  (kd = 1 ∧ a = 0 ∧ b = 0 ∧ -1000000000 ≤ p ∧ p ≤ 1000000000 ∧ 1 ≤ q ∧ q ≤ 1000000000) ∨
  ((2 ≤ kd ∧ kd ≤ 5 ∨ kd = 8 ∨ kd = 9) ∧ 0 ≤ a ∧ a < v ∧ 0 ≤ b ∧ b < v ∧ p = 0 ∧ q = 0) ∨
  ((kd = 6 ∨ kd = 7 ∨ kd = 10) ∧ 0 ≤ a ∧ a < v ∧ b = 0 ∧ p = 0 ∧ q = 0) ∨
  ((kd = 11 ∨ kd = 12) ∧ a = 0 ∧ b = 0 ∧ p = 0 ∧ q = 0)
theorem g111L {α : Type} (m : Nat) (x lo hi : Int) (k : Bool → Option α) : g111 m x lo hi k = k (decide (lo ≤ x ∧ x ≤ hi)) := by
  show cond (decide (x ≥ lo)) (k (decide (x ≤ hi))) (k false) = _
  rw [cond_k]; congr 1
  by_cases h1 : x ≥ lo <;> by_cases h2 : x ≤ hi <;> simp [h1, h2]
theorem g76L {α : Type} (m : Nat) (x lo hi : Int) (k : Bool → Option α) : g76 m x lo hi k = k (decide (lo ≤ x ∧ x ≤ hi)) := g111L m x lo hi k
def two (kd : Int) : Bool := decide (2 ≤ kd ∧ kd ≤ 5 ∨ kd = 8 ∨ kd = 9)
def one1 (kd : Int) : Bool := decide (kd = 6 ∨ kd = 7 ∨ kd = 10)
theorem g105L {α : Type} (m : Nat) (x : Int) (k : Bool → Option α) : g105 m x k = k (one1 x) := by
  show cond (x == 6) (k true) (cond (x == 7) (k true) (k (x == 10))) = _
  rw [cond_k, cond_k]; congr 1
  rw [Bool.eq_iff_iff]
  by_cases h1 : x = 6 <;> by_cases h2 : x = 7 <;> by_cases h3 : x = 10 <;> simp [h1, h2, h3, one1]
theorem g106L {α : Type} (m : Nat) (x : Int) (k : Bool → Option α) : g106 m x k = k (two x) := by
  show cond (decide (x ≥ 2)) (cond (decide (x ≤ 5)) (k true) (cond (x == 8) (k true) (k (x == 9)))) (cond (x == 8) (k true) (k (x == 9))) = _
  simp only [cond_k k]; congr 1
  by_cases h1 : x ≥ 2 <;> by_cases h2 : x ≤ 5 <;> by_cases h3 : x = 8 <;> by_cases h4 : x = 9 <;> simp [h1, h2, h3, h4, two] <;> omega
theorem g80L {α : Type} (m : Nat) {x : Int} (h1 : -32768 ≤ x) (h2 : x ≤ 32767) (v : Int) (u : Bool) (k : Bool → Option α) : g80 m x v u k = k (cond u (decide (0 ≤ x ∧ x < v)) (decide (x = 0))) := by
  show cond (!u) (k (x == 0)) (cond (decide (x ≥ 0)) (k (decide (IntKind.wrap .i64 x < v))) (k false)) = _
  rw [wrapI (by omega) (by omega)]
  simp only [cond_k k]; congr 1
  cases u
  · by_cases h : x = 0 <;> simp [h]
  · by_cases h : x ≥ 0 <;> by_cases h' : x < v <;> simp [h, h']
theorem g79L {α : Type} (m : Nat) (kd p q : Int) (k : Bool → Option α) : g79 m kd p q k = k (decide (kd = 1 ∧ -1000000000 ≤ p ∧ p ≤ 1000000000 ∧ 1 ≤ q ∧ q ≤ 1000000000 ∨ kd ≠ 1 ∧ p = 0 ∧ q = 0)) := by
  show cond (kd == 1) (g111 m p (-1000000000) 1000000000 (fun b => cond b (g111 m q 1 1000000000 (fun b => k b)) (k false))) (cond (p == 0) (k (q == 0)) (k false)) = _
  rw [g111L, g111L]
  simp only [cond_k k]; congr 1
  rw [Bool.eq_iff_iff]
  by_cases h : kd = 1
  · subst h; simp [Bool.cond_eq_ite]; omega
  · by_cases h1 : p = 0 <;> by_cases h2 : q = 0 <;> simp [h, h1, h2]
theorem g74L {α : Type} (m : Nat) (kd : Int) (k : Bool → Bool → Bool → Option α) : g74 m kd k = k (two kd || one1 kd) (two kd) (decide (kd = 1)) := by
  show cond (kd == 1) (k false false true) (cond (kd == 2) (k true true false) (cond (kd == 3) (k true true false) (cond (kd == 4) (k true true false) (cond (kd == 5) (k true true false) (cond (kd == 8) (k true true false) (cond (kd == 9) (k true true false)
    (cond (kd == 6) (k true false false) (cond (kd == 7) (k true false false) (cond (kd == 10) (k true false false) (k false false false)))))))))) = _
  by_cases h : 1 ≤ kd ∧ kd ≤ 10
  · have : kd = 1 ∨ kd = 2 ∨ kd = 3 ∨ kd = 4 ∨ kd = 5 ∨ kd = 6 ∨ kd = 7 ∨ kd = 8 ∨ kd = 9 ∨ kd = 10 := by omega
    rcases this with rfl | rfl | rfl | rfl | rfl | rfl | rfl | rfl | rfl | rfl <;> rfl
  · have hb : ∀ c : Int, 1 ≤ c → c ≤ 10 → (kd == c) = false := fun c h1 h2 => by
      have : kd ≠ c := by omega
      simpa using this
    rw [hb 1 (by omega) (by omega), hb 2 (by omega) (by omega), hb 3 (by omega) (by omega), hb 4 (by omega) (by omega), hb 5 (by omega) (by omega), hb 6 (by omega) (by omega), hb 7 (by omega) (by omega), hb 8 (by omega) (by omega), hb 9 (by omega) (by omega), hb 10 (by omega) (by omega)]
    have h1 : two kd = false := dF (by omega)
    have h2 : one1 kd = false := dF (by omega)
    have h3 : decide (kd = 1) = false := dF (by omega)
    rw [h1, h2, h3]; rfl
theorem implNode {α : Type} (m : Nat) (v : Int) {kd a b p q : Int} (ha : -32768 ≤ a ∧ a ≤ 32767) (hb : -32768 ≤ b ∧ b ≤ 32767) (K : Bool → Option α) (hok : Decidable (OkN kd a b p q v)) :
    g74 m kd (fun b1 b2 b3 => cond (decide (kd < 1)) (K false) (cond (decide (kd > 12)) (K false) (g79 m kd p q (fun r => cond (!r) (K false) (g80 m a v b1 (fun r => cond (!r) (K false) (g80 m b v b2 (fun r => cond (!r) (K false) (K true))))))))) =
      K (@decide (OkN kd a b p q v) hok) := by
  rw [g74L, g79L, g80L m ha.1 ha.2, g80L m hb.1 hb.2]
  simp only [cond_k K]; congr 1
  by_cases h : 1 ≤ kd ∧ kd ≤ 12
  · have : kd = 1 ∨ kd = 2 ∨ kd = 3 ∨ kd = 4 ∨ kd = 5 ∨ kd = 6 ∨ kd = 7 ∨ kd = 8 ∨ kd = 9 ∨ kd = 10 ∨ kd = 11 ∨ kd = 12 := by omega
    rw [dF (show ¬ kd < 1 by omega), dF (show ¬ kd > 12 by omega), cond_false, cond_false, Bool.eq_iff_iff]
    rcases this with rfl | rfl | rfl | rfl | rfl | rfl | rfl | rfl | rfl | rfl | rfl | rfl <;> simp [OkN, two, one1, Bool.cond_eq_ite] <;> omega
  · have hn : ¬ OkN kd a b p q v := by unfold OkN; omega
    rw [decide_eq_false hn]
    by_cases h1 : kd < 1
    · rw [dT h1]; rfl
    · rw [dF h1, dT (show kd > 12 by omega)]; rfl
theorem specNode {α : Type} (m : Nat) {i n : Nat} (hi : i < n) {v : Int} (hv : 0 ≤ v ∧ v ≤ 2000000) {u : List (List Int)} {kd a b p q : Int} (hx : List.getD u i [] = [kd, a, b, p, q]) (ha : -32768 ≤ a ∧ a ≤ 32767) (hb : -32768 ≤ b ∧ b ≤ 32767)
    (K : Bool → Option α) (hok : Decidable (OkN kd a b p q v)) : g77 m i v n u K = K (@decide (OkN kd a b p q v) hok) := by
  unfold g77 g77b
  simp only [if_pos hi, hx, List.headD_cons, List.tail_cons, g105L, g106L, g76L, wrapI (show -9223372036854775808 ≤ a by omega) (by omega), wrapI (show -9223372036854775808 ≤ b by omega) (by omega), wrapI (show -9223372036854775808 ≤ v - (1 : Int) by omega) (by omega), cond_k K]
  congr 1
  by_cases h : 1 ≤ kd ∧ kd ≤ 12
  · have : kd = 1 ∨ kd = 2 ∨ kd = 3 ∨ kd = 4 ∨ kd = 5 ∨ kd = 6 ∨ kd = 7 ∨ kd = 8 ∨ kd = 9 ∨ kd = 10 ∨ kd = 11 ∨ kd = 12 := by omega
    rw [dF (show ¬ kd < 1 by omega), dF (show ¬ kd > 12 by omega), cond_false, cond_false, Bool.eq_iff_iff]
    rcases this with rfl | rfl | rfl | rfl | rfl | rfl | rfl | rfl | rfl | rfl | rfl | rfl <;> simp [OkN, two, one1, Bool.cond_eq_ite] <;> omega
  · have hn : ¬ OkN kd a b p q v := by unfold OkN; omega
    rw [decide_eq_false hn]
    by_cases h1 : kd < 1
    · rw [dT h1]; rfl
    · rw [dF h1, dT (show kd > 12 by omega)]; rfl
structure RowN (u : List (List Int)) : Prop extends Row5 u where
  parts : ∀ x ∈ u, ∃ kd a b p q, x = [kd, a, b, p, q] ∧ (-32768 ≤ a ∧ a ≤ 32767) ∧ (-32768 ≤ b ∧ b ≤ 32767) ∧ (-128 ≤ kd ∧ kd ≤ 127) ∧ (-9223372036854775808 ≤ p ∧ p ≤ 9223372036854775807) ∧ (-9223372036854775808 ≤ q ∧ q ≤ 9223372036854775807)
theorem rowN_of {u : List (List Int)} (hw : EK.Ws (.rc [.i8, .i16, .i16, .i64, .i64]) u) (hl : u.length ≤ 1048576) : RowN u := by
  refine ⟨row5_len hw hl, fun x hx => ?_⟩
  have h : WfL [.i8, .i16, .i16, .i64, .i64] x := hw x hx
  match x, h with
  | [kd, a, b, p, q], h =>
    obtain ⟨h1, h2, h3, h4, h5, _⟩ := h
    exact ⟨kd, a, b, p, q, rfl, lit_i16 h2, lit_i16 h3, lit_i8 h1, lit_i64 h4, lit_i64 h5⟩
def OkFrom (u : List (List Int)) (i : Nat) : Prop := ∀ j, i ≤ j → j < u.length → OkN ((List.getD u j []).headD 0) ((List.getD u j []).tail.headD 0) ((List.getD u j []).tail.tail.headD 0) ((List.getD u j []).tail.tail.tail.headD 0) ((List.getD u j []).tail.tail.tail.tail.headD 0) j
theorem okFrom_step {u : List (List Int)} {i : Nat} (hi : i < u.length) : OkFrom u i ↔ OkN ((List.getD u i []).headD 0) ((List.getD u i []).tail.headD 0) ((List.getD u i []).tail.tail.headD 0) ((List.getD u i []).tail.tail.tail.headD 0) ((List.getD u i []).tail.tail.tail.tail.headD 0) i ∧ OkFrom u (i + 1) := by
  constructor
  · intro h; exact ⟨h i (Nat.le_refl _) hi, fun j h1 h2 => h j (by omega) h2⟩
  · rintro ⟨h1, h2⟩ j hj hl
    by_cases e : j = i
    · subst e; exact h1
    · exact h2 j (by omega) hl
open Classical in
theorem g37s {α : Type} (q lo len cap n : Nat) (u : List (List Int)) (kF kT : Option α) (m : Nat) (v : Int) : g37l0 (g77 q) lo len cap n u kF kT (m + 1) v =
    cond (decide (v < ((len : Nat) : Int))) (if 0 ≤ v ∧ v < (len : Nat) then g77 q (lo + v.toNat) v n u (fun b => cond (!b) kF (g37l0 (g77 q) lo len cap n u kF kT m (IntKind.wrap .i64 (v + (1 : Int))))) else none) kT := by kernel_rfl
open Classical in
theorem g37loop {α : Type} (q cap : Nat) {u : List (List Int)} (hu : RowN u) (kF kT : Option α) : ∀ (d i m : Nat), i + d = u.length → d < m →
    g37l0 (g77 q) 0 u.length cap u.length u kF kT m (i : Int) = cond (decide (OkFrom u i)) kT kF
  | 0, i, m, hi, hm => by
    obtain ⟨m, rfl⟩ : ∃ n, m = n + 1 := ⟨m - 1, by omega⟩
    rw [g37s, dF (by omega), cond_false, decide_eq_true (show OkFrom u i from fun j h1 h2 => by omega), cond_true]
  | d + 1, i, m, hi, hm => by
    obtain ⟨m, rfl⟩ : ∃ n, m = n + 1 := ⟨m - 1, by omega⟩
    have hlen := hu.len
    have h1 : i < u.length := by omega
    obtain ⟨kd, a, b, p, r, hx, ha, hb, _⟩ := hu.parts _ (List.getElem_mem h1)
    have hg : List.getD u i [] = [kd, a, b, p, r] := by rw [getD_at u [] h1, hx]
    rw [g37s, dT (show (i : Int) < ((u.length : Nat) : Int) by omega), cond_true, if_pos ⟨by omega, by omega⟩, Int.toNat_natCast, Nat.zero_add, specNode q h1 ⟨by omega, by omega⟩ hg ha hb _ (Classical.propDecidable _), wrapS (by omega), g37loop q cap hu kF kT d (i + 1) m (by omega) (by omega)]
    refine cond_dec (p := OkFrom u i) ?_ kT kF
    rw [okFrom_step h1, hg]; rfl
open Classical in
theorem g37L {α : Type} (m cap : Nat) {u : List (List Int)} (hu : RowN u) (hm : u.length < m) (k : Bool → Option α) : g37 m 0 u.length cap u.length u k = k (decide ((1 ≤ u.length ∧ u.length ≤ 40) ∧ OkFrom u 0)) := by
  show g76 m ((u.length : Nat) : Int) 1 40 (fun b => cond (!b) (k false) (g37l0 (g77 m) 0 u.length cap u.length u (k false) (k true) m ((0 : Nat) : Int))) = _
  rw [g76L, g37loop m cap hu _ _ u.length 0 m (by omega) hm]
  by_cases h1 : 1 ≤ u.length ∧ u.length ≤ 40
  · rw [dT (by omega), Bool.not_true, cond_false]
    by_cases h2 : OkFrom u 0 <;> simp [h1, h2]
  · rw [dF (by omega), Bool.not_false, cond_true, decide_eq_false (fun h => h1 h.1)]
open Classical in
theorem g40s {α : Type} (q lo len cap : Nat) (w : Int) (n : Nat) (u : List (List Int)) (kF kT : Option α) (m : Nat) (v : Int) : g40l0 (g74 q) (g79 q) (g80 q) lo len cap w n u kF kT (m + 1) v =
    cond (decide (v < w)) (if 0 ≤ v ∧ v < (len : Nat) then (if (lo + v.toNat) < n then
      g74 q ((List.getD u (lo + v.toNat) []).headD 0) (fun b1 b2 b3 => cond (decide ((List.getD u (lo + v.toNat) []).headD 0 < 1)) kF (cond (decide ((List.getD u (lo + v.toNat) []).headD 0 > 12)) kF
        (g79 q ((List.getD u (lo + v.toNat) []).headD 0) ((List.getD u (lo + v.toNat) []).tail.tail.tail.headD 0) ((List.getD u (lo + v.toNat) []).tail.tail.tail.tail.headD 0) (fun r => cond (!r) kF
          (g80 q ((List.getD u (lo + v.toNat) []).tail.headD 0) v b1 (fun r => cond (!r) kF (g80 q ((List.getD u (lo + v.toNat) []).tail.tail.headD 0) v b2 (fun r => cond (!r) kF
            (g40l0 (g74 q) (g79 q) (g80 q) lo len cap w n u kF kT m (IntKind.wrap .i64 (v + (1 : Int)))))))))))) else none) else none) kT := by kernel_rfl
open Classical in
theorem g40loop {α : Type} (q cap : Nat) {u : List (List Int)} (hu : RowN u) (kF kT : Option α) : ∀ (d i m : Nat), i + d = u.length → d < m →
    g40l0 (g74 q) (g79 q) (g80 q) 0 u.length cap ((u.length : Nat) : Int) u.length u kF kT m (i : Int) = cond (decide (OkFrom u i)) kT kF
  | 0, i, m, hi, hm => by
    obtain ⟨m, rfl⟩ : ∃ n, m = n + 1 := ⟨m - 1, by omega⟩
    rw [g40s, dF (by omega), cond_false, decide_eq_true (show OkFrom u i from fun j h1 h2 => by omega), cond_true]
  | d + 1, i, m, hi, hm => by
    obtain ⟨m, rfl⟩ : ∃ n, m = n + 1 := ⟨m - 1, by omega⟩
    have hlen := hu.len
    have h1 : i < u.length := by omega
    obtain ⟨kd, a, b, p, r, hx, ha, hb, _⟩ := hu.parts _ (List.getElem_mem h1)
    have hg : List.getD u i [] = [kd, a, b, p, r] := by rw [getD_at u [] h1, hx]
    rw [g40s, dT (show (i : Int) < ((u.length : Nat) : Int) by omega), cond_true, if_pos ⟨by omega, by omega⟩, Int.toNat_natCast, Nat.zero_add, if_pos h1, wrapS (by omega), g40loop q cap hu kF kT d (i + 1) m (by omega) (by omega)]
    have hcd := cond_dec (p := OkFrom u i) (okFrom_step h1) kT kF
    rw [hg] at hcd ⊢
    exact (implNode q (i : Int) ha hb (fun b => cond (!b) kF (cond (decide (OkFrom u (i + 1))) kT kF)) (Classical.propDecidable _)).trans hcd
open Classical in
theorem g40L {α : Type} (m cap : Nat) {u : List (List Int)} (hu : RowN u) (hm : u.length < m) (k : Bool → Option α) : g40 m 0 u.length cap u.length u k = k (decide ((1 ≤ u.length ∧ u.length ≤ 40) ∧ OkFrom u 0)) := by
  show cond (decide (((u.length : Nat) : Int) < 1)) (k false) (cond (decide (((u.length : Nat) : Int) > 40)) (k false) (g40l0 (g74 m) (g79 m) (g80 m) 0 u.length cap ((u.length : Nat) : Int) u.length u (k false) (k true) m ((0 : Nat) : Int))) = _
  rw [g40loop m cap hu _ _ u.length 0 m (by omega) hm]
  by_cases h1 : 1 ≤ u.length ∧ u.length ≤ 40
  · rw [dF (by omega), dF (by omega), cond_false, cond_false]
    by_cases h2 : OkFrom u 0 <;> simp [h1, h2]
  · rw [decide_eq_false (p := (1 ≤ u.length ∧ u.length ≤ 40) ∧ OkFrom u 0) (fun h => h1 h.1)]
    by_cases h2 : u.length < 1
    · rw [dT (by omega), cond_true]
    · rw [dF (by omega), cond_false, dT (by omega), cond_true]
theorem g45T {α : Type} (q : Nat) (x : List Int) (k : Bool → Option α) : g45 q (x.headD 0) (x.tail.headD 0) (x.tail.tail.headD 0) (x.tail.tail.tail.headD 0) (x.tail.tail.tail.tail.headD 0)
    (x.headD 0) (x.tail.headD 0) (x.tail.tail.headD 0) (x.tail.tail.tail.headD 0) (x.tail.tail.tail.tail.headD 0) k = k true := by
  rw [g45_o]; simp only [bne_self_eq_false, cond_false]
theorem g11T {α : Type} (m a b n : Nat) (u : List (List Int)) (hn : n ≤ 1048576) (hm : 1048576 < m) (k : Bool → Option α) : g11 m 0 n a 0 n b n u n u k = k true := by
  rw [g11_o, bne_self_eq_false, cond_false]
  have := loopR (fun m' i => g11l0 (g45 m) 0 n a 0 n b n u n u (k false) (k true) m' (i : Int)) (fun _ => k true) n (fun m' => ?_) (fun m' i hi h => ?_) n 0 m (by omega) (by omega)
  · simpa using this
  · rw [g11l0_s, dF (by omega), cond_false]
  · rw [g11l0_s, dT (by omega), cond_true, if_pos (cast_lt hi), Int.toNat_natCast, Nat.zero_add, if_pos hi, if_pos (cast_lt hi), if_pos hi, g45T, Bool.not_true, cond_false, wrapS (by omega), h]
end Go.Proofs.YtlmmgjngihlpeaaDoor.Sx
