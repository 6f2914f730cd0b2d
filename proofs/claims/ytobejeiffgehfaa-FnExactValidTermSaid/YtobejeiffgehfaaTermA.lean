/- Plain laws: rows of nodes that are copied and compared; SameTerm. Our own work. -/
import Derived.Test.YtobejeiffgehfaaSxV
import Derived.Test.YtobejeiffgehfaaSxQ
namespace Go.Proofs.Ytobejeiffgehfaa.Sx
open Go
set_option linter.unusedVariables false
set_option linter.unusedSimpArgs false
set_option maxRecDepth 100000
theorem wrapS {i : Nat} (h : i < 2000000000) : IntKind.wrap .i64 ((i : Int) + (1 : Int)) = ((i + 1 : Nat) : Int) := by rw [IntKind.wrap_i64]; omega
theorem wrapI {x : Int} (h1 : -9223372036854775808 ≤ x) (h2 : x ≤ 9223372036854775807) : IntKind.wrap .i64 x = x := by rw [IntKind.wrap_i64]; omega
theorem dT {p : Prop} [Decidable p] (h : p) : decide p = true := decide_eq_true h
theorem dF {p : Prop} [Decidable p] (h : ¬ p) : decide p = false := decide_eq_false h
/-- One more element has been put to its place. -/
theorem set_step {T : Type} (u : List T) (d : T) {i n : Nat} (h : i + (n + 1) = u.length) : (u.take i ++ List.replicate (n + 1) d).set i (u[i]'(by omega)) = u.take (i + 1) ++ List.replicate n d := by
  have hl : (u.take i).length = i := by rw [List.length_take]; omega
  rw [List.set_append_right _ _ (by omega), hl, Nat.sub_self, List.replicate_succ, List.set_cons_zero, List.take_succ_eq_append_getElem (by omega), List.append_assoc]; rfl
theorem getD_at {T : Type} (u : List T) (d : T) {i : Nat} (h : i < u.length) : List.getD u i d = u[i] := by simp [List.getD, h]
theorem five {x : List Int} (h : x.length = 5) : [x.headD 0, x.tail.headD 0, x.tail.tail.headD 0, x.tail.tail.tail.headD 0, x.tail.tail.tail.tail.headD 0] = x := by
  match x, h with
  | [a, b, c, d, e], _ => rfl
theorem eq5 {x y : List Int} (hx : x.length = 5) (hy : y.length = 5) : (((x.headD 0) == (y.headD 0)) && (((x.tail.headD 0) == (y.tail.headD 0)) && (((x.tail.tail.headD 0) == (y.tail.tail.headD 0)) && (((x.tail.tail.tail.headD 0) == (y.tail.tail.tail.headD 0)) &&
    ((x.tail.tail.tail.tail.headD 0) == (y.tail.tail.tail.tail.headD 0)))))) = decide (x = y) := by
  match x, hx, y, hy with
  | [a, b, c, d, e], _, [a', b', c', d', e'], _ => rw [Bool.eq_iff_iff]; simp
/-- A list of nodes, as a row. -/
structure Row5 (u : List (List Int)) : Prop where
  len : u.length ≤ 1048576
  five : ∀ x ∈ u, x.length = 5
theorem Row5.at {u : List (List Int)} (h : Row5 u) {i : Nat} (hi : i < u.length) : (u[i]'hi).length = 5 := h.five _ (List.getElem_mem hi)
theorem g39L {α : Type} (q : Nat) (a b c d e : Int) (k : Option α) : g39 q a b c d e k = k := rfl
theorem g13s {α : Type} (q lo len cap lo' len' cap' n : Nat) (u : List (List Int)) (n' : Nat) (k : List (List Int) → Option α) (m : Nat) (v : Int) (l : List (List Int)) : g13l0 (g39 q) lo len cap lo' len' cap' n u n' k (m + 1) v l =
    cond (decide (v < ((len : Nat) : Int))) (if 0 ≤ v ∧ v < (len : Nat) then (if (lo + v.toNat) < n then (if 0 ≤ v ∧ v < (len' : Nat) then (if (lo' + v.toNat) < n' then
      g13l0 (g39 q) lo len cap lo' len' cap' n u n' k m (IntKind.wrap .i64 (v + (1 : Int))) (List.set l (lo' + v.toNat) [(List.getD u (lo + v.toNat) []).headD 0, (List.getD u (lo + v.toNat) []).tail.headD 0, (List.getD u (lo + v.toNat) []).tail.tail.headD 0,
        (List.getD u (lo + v.toNat) []).tail.tail.tail.headD 0, (List.getD u (lo + v.toNat) []).tail.tail.tail.tail.headD 0]) else none) else none) else none) else none) (k l) := by kernel_rfl
theorem g13u {α : Type} (m lo len cap n : Nat) (u : List (List Int)) (k : List (List Int) → Option α) : g13 m lo len cap n u k =
    if ((len : Nat) : Int) = ((len : Nat) : Int) ∧ 0 ≤ ((len : Nat) : Int) ∧ ((len : Nat) : Int) ≤ 1048576 then g13l0 (g39 m) lo len cap 0 len len n u len k m ((0 : Nat) : Int) (List.replicate len []) else none := by kernel_rfl
theorem g13loop {α : Type} (q cap : Nat) {u : List (List Int)} (hu : Row5 u) (k : List (List Int) → Option α) : ∀ (d i m : Nat), i + d = u.length → d < m →
    g13l0 (g39 q) 0 u.length cap 0 u.length u.length u.length u u.length k m (i : Int) (u.take i ++ List.replicate d []) = k u
  | 0, i, m, hi, hm => by
    obtain ⟨m, rfl⟩ : ∃ n, m = n + 1 := ⟨m - 1, by omega⟩
    rw [g13s, dF (by omega), cond_false, List.take_of_length_le (by omega)]; simp
  | d + 1, i, m, hi, hm => by
    obtain ⟨m, rfl⟩ : ∃ n, m = n + 1 := ⟨m - 1, by omega⟩
    have hlen := hu.len
    rw [g13s, dT (show (i : Int) < ((u.length : Nat) : Int) by omega), cond_true, if_pos ⟨by omega, by omega⟩, Int.toNat_natCast, Nat.zero_add, if_pos (show i < u.length by omega), if_pos ⟨by omega, by omega⟩,
      if_pos (show i < u.length by omega), getD_at u [] (show i < u.length by omega), five (hu.at _), set_step u [] hi, wrapS (by omega)]
    exact g13loop q cap hu k d (i + 1) m (by omega) (by omega)
/-- a copy of a term -/
theorem g13L {α : Type} (m cap : Nat) {u : List (List Int)} (hu : Row5 u) (hm : u.length < m) (k : List (List Int) → Option α) : g13 m 0 u.length cap u.length u k = k u := by
  have hlen := hu.len
  rw [g13u, if_pos ⟨rfl, by omega, by omega⟩]
  exact g13loop m cap hu k u.length 0 m (by omega) hm
theorem g11u {α : Type} (m a len cap : Nat) (p : Int) (n : Nat) (u : List (List Int)) (k : Int → Option α) : g11 m a len cap p n u k =
    cond (decide (IntKind.wrap .i64 (p - ((len : Nat) : Int)) < (0 : Int))) (k (-1)) (k (IntKind.wrap .i64 (p - ((len : Nat) : Int)))) := by kernel_rfl
theorem g11L {α : Type} (m a cap : Nat) (u : List (List Int)) {p : Nat} (hp : p ≤ 1048576) (hl : u.length ≤ 9223372036854775807) (k : Int → Option α) : g11 m a u.length cap (p : Int) u.length u k = k (if u.length ≤ p then ((p - u.length : Nat) : Int) else -1) := by
  rw [g11u, wrapI (by omega) (by omega)]
  by_cases h : u.length ≤ p
  · rw [dF (by omega), cond_false, if_pos h]; congr 1; omega
  · rw [dT (by omega), cond_true, if_neg h]
theorem getElem_drop_eq {T : Type} {u v : List T} {i : Nat} (hu : i < u.length) (hv : i < v.length) : (u.drop i = v.drop i) ↔ (u[i] = v[i] ∧ u.drop (i + 1) = v.drop (i + 1)) := by
  rw [List.drop_eq_getElem_cons hu, List.drop_eq_getElem_cons hv, List.cons.injEq]
theorem cond_dec {β : Type} {p q r : Prop} [Decidable p] [Decidable q] [Decidable r] (h : p ↔ q ∧ r) (x y : β) : cond (!(decide q)) y (cond (decide r) x y) = cond (decide p) x y := by
  by_cases hq : q <;> by_cases hr : r <;> simp [hq, hr, h]
theorem g12loop {α : Type} (cap cap' : Nat) {u v : List (List Int)} (hu : Row5 u) (hv : Row5 v) (hl : u.length = v.length) (kF kT : Option α) : ∀ (d i m : Nat), i + d = u.length → d < m →
    g12l0 0 u.length cap 0 v.length cap' u.length u v.length v kF kT m (i : Int) = cond (decide (u.drop i = v.drop i)) kT kF
  | 0, i, m, hi, hm => by
    obtain ⟨m, rfl⟩ : ∃ n, m = n + 1 := ⟨m - 1, by omega⟩
    show g12l0b 0 u.length cap 0 v.length cap' u.length u v.length v kF kT _ (i : Int) = _
    unfold g12l0b
    rw [dF (by omega), cond_false, List.drop_eq_nil_of_le (by omega), List.drop_eq_nil_of_le (by omega), dT rfl]; rfl
  | d + 1, i, m, hi, hm => by
    obtain ⟨m, rfl⟩ : ∃ n, m = n + 1 := ⟨m - 1, by omega⟩
    have hlen := hu.len
    have h1 : i < u.length := by omega
    have h2 : i < v.length := by omega
    show g12l0b 0 u.length cap 0 v.length cap' u.length u v.length v kF kT _ (i : Int) = _
    unfold g12l0b
    rw [dT (show (i : Int) < ((u.length : Nat) : Int) by omega), cond_true, if_pos ⟨by omega, by omega⟩, Int.toNat_natCast, Nat.zero_add, if_pos h1, if_pos ⟨by omega, by omega⟩, if_pos h2,
      getD_at u [] h1, getD_at v [] h2, eq5 (hu.at h1) (hv.at h2), wrapS (by omega), g12loop cap cap' hu hv hl kF kT d (i + 1) m (by omega) (by omega)]
    exact cond_dec (getElem_drop_eq h1 h2) kT kF
theorem g12L {α : Type} (m cap cap' : Nat) {u v : List (List Int)} (hu : Row5 u) (hv : Row5 v) (hm : u.length < m) (k : Bool → Option α) : g12 m 0 u.length cap 0 v.length cap' u.length u v.length v k = k (decide (u = v)) := by
  show cond (((u.length : Nat) : Int) != ((v.length : Nat) : Int)) (k false) (g12l0 0 u.length cap 0 v.length cap' u.length u v.length v (k false) (k true) m ((0 : Nat) : Int)) = _
  by_cases hl : u.length = v.length
  · rw [hl, bne_self_eq_false, cond_false, ← hl]
    have := g12loop cap cap' hu hv hl (k false) (k true) u.length 0 m (by omega) hm
    rw [← hl] at this
    rw [this, List.drop_zero, List.drop_zero]
    by_cases h : u = v <;> simp [h]
  · rw [show (((u.length : Nat) : Int) != ((v.length : Nat) : Int)) = true from bne_iff_ne.2 (by omega), cond_true, dF (fun h => hl (by rw [h]))]
theorem g40loop {α : Type} (cap cap' : Nat) {u v : List (List Int)} (hu : Row5 u) (hv : Row5 v) (hl : u.length = v.length) (kF kT : Option α) : ∀ (d i m : Nat), i + d = u.length → d < m →
    g40l0 0 u.length cap 0 v.length cap' ((u.length : Nat) : Int) u.length u v.length v kF kT m (i : Int) = cond (decide (u.drop i = v.drop i)) kT kF
  | 0, i, m, hi, hm => by
    obtain ⟨m, rfl⟩ : ∃ n, m = n + 1 := ⟨m - 1, by omega⟩
    show g40l0b 0 u.length cap 0 v.length cap' ((u.length : Nat) : Int) u.length u v.length v kF kT _ (i : Int) = _
    unfold g40l0b
    rw [dF (by omega), cond_false, List.drop_eq_nil_of_le (by omega), List.drop_eq_nil_of_le (by omega), dT rfl]; rfl
  | d + 1, i, m, hi, hm => by
    obtain ⟨m, rfl⟩ : ∃ n, m = n + 1 := ⟨m - 1, by omega⟩
    have hlen := hu.len
    have h1 : i < u.length := by omega
    have h2 : i < v.length := by omega
    show g40l0b 0 u.length cap 0 v.length cap' ((u.length : Nat) : Int) u.length u v.length v kF kT _ (i : Int) = _
    unfold g40l0b
    rw [dT (show (i : Int) < ((u.length : Nat) : Int) by omega), cond_true, if_pos ⟨by omega, by omega⟩, Int.toNat_natCast, Nat.zero_add, if_pos h1, if_pos ⟨by omega, by omega⟩, if_pos h2,
      getD_at u [] h1, getD_at v [] h2, eq5 (hu.at h1) (hv.at h2), wrapS (by omega), g40loop cap cap' hu hv hl kF kT d (i + 1) m (by omega) (by omega)]
    exact cond_dec (getElem_drop_eq h1 h2) kT kF
theorem g14L {α : Type} (m cap cap' : Nat) {u v : List (List Int)} (hu : Row5 u) (hv : Row5 v) (hm : u.length < m) (k : Bool → Option α) : g14 m 0 u.length cap 0 v.length cap' u.length u v.length v k = k (decide (u = v)) := by
  show cond (((u.length : Nat) : Int) != ((v.length : Nat) : Int)) (k false) (g40l0 0 u.length cap 0 v.length cap' ((u.length : Nat) : Int) u.length u v.length v (k false) (k true) m ((0 : Nat) : Int)) = _
  by_cases hl : u.length = v.length
  · rw [hl, bne_self_eq_false, cond_false, ← hl]
    have := g40loop cap cap' hu hv hl (k false) (k true) u.length 0 m (by omega) hm
    rw [← hl] at this
    rw [this, List.drop_zero, List.drop_zero]
    by_cases h : u = v <;> simp [h]
  · rw [show (((u.length : Nat) : Int) != ((v.length : Nat) : Int)) = true from bne_iff_ne.2 (by omega), cond_true, dF (fun h => hl (by rw [h]))]
theorem g41L {α : Type} (q : Nat) {x y : List Int} (hx : x.length = 5) (hy : y.length = 5) (k : Bool → Option α) : g41 q (x.headD 0) (x.tail.headD 0) (x.tail.tail.headD 0) (x.tail.tail.tail.headD 0) (x.tail.tail.tail.tail.headD 0)
    (y.headD 0) (y.tail.headD 0) (y.tail.tail.headD 0) (y.tail.tail.tail.headD 0) (y.tail.tail.tail.tail.headD 0) k = k (decide (x = y)) := by
  match x, hx, y, hy with
  | [a, b, c, d, e], _, [a', b', c', d', e'], _ =>
    show cond (a != a') _ (cond (b != b') _ (cond (c != c') _ (cond (d != d') _ (cond (e != e') _ _)))) = _
    have hb : ∀ a b : Int, (a != b) = !(decide (a = b)) := fun a b => by by_cases h : a = b <;> simp [h]
    rw [hb, hb, hb, hb, hb]
    by_cases h1 : a = a' <;> by_cases h2 : b = b' <;> by_cases h3 : c = c' <;> by_cases h4 : d = d' <;> by_cases h5 : e = e' <;> simp [h1, h2, h3, h4, h5]
theorem g15s {α : Type} (q lo len cap lo' len' cap' n : Nat) (u : List (List Int)) (n' : Nat) (v : List (List Int)) (kF kT : Option α) (m : Nat) (i : Int) : g15l0 (g41 q) lo len cap lo' len' cap' n u n' v kF kT (m + 1) i =
    cond (decide (i < ((len : Nat) : Int))) (if 0 ≤ i ∧ i < (len : Nat) then (if (lo + i.toNat) < n then (if 0 ≤ i ∧ i < (len' : Nat) then (if (lo' + i.toNat) < n' then
      g41 q ((List.getD u (lo + i.toNat) []).headD 0) ((List.getD u (lo + i.toNat) []).tail.headD 0) ((List.getD u (lo + i.toNat) []).tail.tail.headD 0) ((List.getD u (lo + i.toNat) []).tail.tail.tail.headD 0) ((List.getD u (lo + i.toNat) []).tail.tail.tail.tail.headD 0)
        ((List.getD v (lo' + i.toNat) []).headD 0) ((List.getD v (lo' + i.toNat) []).tail.headD 0) ((List.getD v (lo' + i.toNat) []).tail.tail.headD 0) ((List.getD v (lo' + i.toNat) []).tail.tail.tail.headD 0) ((List.getD v (lo' + i.toNat) []).tail.tail.tail.tail.headD 0)
        (fun b => cond (!b) kF (g15l0 (g41 q) lo len cap lo' len' cap' n u n' v kF kT m (IntKind.wrap .i64 (i + (1 : Int))))) else none) else none) else none) else none) kT := by kernel_rfl
theorem g15loop {α : Type} (q cap cap' : Nat) {u v : List (List Int)} (hu : Row5 u) (hv : Row5 v) (hl : u.length = v.length) (kF kT : Option α) : ∀ (d i m : Nat), i + d = u.length → d < m →
    g15l0 (g41 q) 0 u.length cap 0 v.length cap' u.length u v.length v kF kT m (i : Int) = cond (decide (u.drop i = v.drop i)) kT kF
  | 0, i, m, hi, hm => by
    obtain ⟨m, rfl⟩ : ∃ n, m = n + 1 := ⟨m - 1, by omega⟩
    rw [g15s, dF (by omega), cond_false, List.drop_eq_nil_of_le (by omega), List.drop_eq_nil_of_le (by omega), dT rfl]; rfl
  | d + 1, i, m, hi, hm => by
    obtain ⟨m, rfl⟩ : ∃ n, m = n + 1 := ⟨m - 1, by omega⟩
    have hlen := hu.len
    have h1 : i < u.length := by omega
    have h2 : i < v.length := by omega
    rw [g15s, dT (show (i : Int) < ((u.length : Nat) : Int) by omega), cond_true, if_pos ⟨by omega, by omega⟩, Int.toNat_natCast, Nat.zero_add, if_pos h1, if_pos ⟨by omega, by omega⟩, if_pos h2,
      getD_at u [] h1, getD_at v [] h2, g41L q (hu.at h1) (hv.at h2), wrapS (by omega), g15loop q cap cap' hu hv hl kF kT d (i + 1) m (by omega) (by omega)]
    exact cond_dec (getElem_drop_eq h1 h2) kT kF
theorem g15L {α : Type} (m cap cap' : Nat) {u : List (List Int)} (hu : Row5 u) (hm : u.length < m) (k : Bool → Option α) : g15 m 0 u.length cap 0 u.length cap' u.length u u.length u k = k true := by
  show cond (((u.length : Nat) : Int) != ((u.length : Nat) : Int)) (k false) (g15l0 (g41 m) 0 u.length cap 0 u.length cap' u.length u u.length u (k false) (k true) m ((0 : Nat) : Int)) = _
  rw [bne_self_eq_false, cond_false, g15loop m cap cap' hu hu rfl (k false) (k true) u.length 0 m (by omega) hm, dT rfl]; rfl
theorem row5_of {len : Nat} {u : List (List Int)} (hw : EK.Ws (.rc [.i8, .i16, .i16, .i64, .i64]) u) (hl : u.length ≤ 1048576) : Row5 u := by
  refine ⟨hl, fun x hx => ?_⟩
  have := hw x hx
  have h2 : ∀ (ks : List IntKind) (l : List Int), WfL ks l → l.length = ks.length := by
    intro ks
    induction ks with
    | nil => intro l h; cases l with
      | nil => rfl
      | cons _ _ => exact h.elim
    | cons k ks ih => intro l h; cases l with
      | nil => exact h.elim
      | cons a l => simp [ih l h.2]
  exact h2 _ _ this
theorem row5_len {u : List (List Int)} (hw : EK.Ws (.rc [.i8, .i16, .i16, .i64, .i64]) u) (hl : u.length ≤ 1048576) : Row5 u := row5_of (len := 0) hw hl
theorem g3U {α : Type} (m lo len cap lo' len' cap' n : Nat) (u : List (List Int)) (n' : Nat) (v : List (List Int)) (k : Bool → Option α) : g3 m lo len cap lo' len' cap' n u n' v k =
    g11 m lo len cap 1048576 n u (fun x => cond (decide (x < 0)) (k true) (g11 m lo' len' cap' x n' v (fun x => cond (decide (x < 0)) (k true) (g13 m lo len cap n u (fun a => g13 m lo' len' cap' n' v (fun b => g12 m 0 len len 0 len' len' len a len' b (fun r => g13 m lo len cap n u (fun a' => g13 m lo' len' cap' n' v (fun b' => g14 m 0 len len 0 len' len' len a' len' b' (fun r' => cond (!(r' == r)) (k false) (g13 m lo len cap n u (fun a'' => g15 m 0 len len 0 len len len a' len a'' (fun r => cond (!r) (k false) (g13 m lo' len' cap' n' v (fun b'' => g15 m 0 len' len' 0 len' len' len' b' len' b'' (fun r => cond (!r) (k false) (k true))))))))))))))))) := by kernel_rfl
theorem law3 {α : Type} (m cap cap' : Nat) {u v : List (List Int)} (h5 : EK.Ws (.rc [.i8, .i16, .i16, .i64, .i64]) u) (h5' : EK.Ws (.rc [.i8, .i16, .i16, .i64, .i64]) v) (hu : u.length ≤ 9223372036854775807) (hv : v.length ≤ 9223372036854775807) (hm : 1048576 < m) (k : Bool → Option α) :
    g3 m 0 u.length cap 0 v.length cap' u.length u v.length v k = k true := by
  rw [g3U, show (1048576 : Int) = ((1048576 : Nat) : Int) from rfl, g11L m 0 cap u (Nat.le_refl _) hu]
  by_cases hul : u.length ≤ 1048576
  · rw [if_pos hul, dF (by omega), cond_false, g11L m 0 cap' v (by omega) hv]
    by_cases hvl : v.length ≤ 1048576 - u.length
    · have hU := row5_len h5 hul
      have hV := row5_len h5' (show v.length ≤ 1048576 by omega)
      have hm1 : u.length < m := by omega
      have hm2 : v.length < m := by omega
      rw [if_pos hvl, dF (by omega), cond_false, g13L m cap hU hm1, g13L m cap' hV hm2, g12L m _ _ hU hV hm1, g13L m cap hU hm1, g13L m cap' hV hm2, g14L m _ _ hU hV hm1, beq_self_eq_true, Bool.not_true, cond_false,
        g13L m cap hU hm1, g15L m _ _ hU hm1, Bool.not_true, cond_false, g13L m cap' hV hm2, g15L m _ _ hV hm2, Bool.not_true, cond_false]
    · rw [if_neg hvl, dT (by omega), cond_true]
  · rw [if_neg hul, dT (by omega), cond_true]
theorem maxLen_eq : maxLen = 9223372036854775807 := by kernel_rfl
def ap3 : List AP := [.sl (.rc [.i8, .i16, .i16, .i64, .i64]), .sl (.rc [.i8, .i16, .i16, .i64, .i64])]
theorem law3m (m : Nat) (hm : 1048576 < m) (ls : List Lf) (hw : WA ap3 ls) : g3K (g3 m) ls (fun v _ _ => saysTrue v) = some () := by
  obtain ⟨⟨a1, a2, a3, a4, a5, a6⟩, ⟨b1, b2, b3, b4, b5, b6⟩, _⟩ := hw
  rw [maxLen_eq] at a4 b4
  unfold g3K
  have e0 : (lf ls 0).nat = 0 := a1
  have e3 : (lf ls 3).nat = 0 := b1
  have e1 : (lf ls 1).nat = ((lf ls 7).lst (.rc [.i8, .i16, .i16, .i64, .i64])).length := a5.symm
  have e4 : (lf ls 4).nat = ((lf ls 9).lst (.rc [.i8, .i16, .i16, .i64, .i64])).length := b5.symm
  have e6 : (lf ls 6).nat = (lf ls 1).nat := a2
  have e8 : (lf ls 8).nat = (lf ls 4).nat := b2
  have c1 : (lf ls 1).nat ≤ (lf ls 2).nat := a3
  have c2 : (lf ls 2).nat ≤ 9223372036854775807 := a4
  have c3 : (lf ls 4).nat ≤ (lf ls 5).nat := b3
  have c4 : (lf ls 5).nat ≤ 9223372036854775807 := b4
  have w1 : EK.Ws (.rc [.i8, .i16, .i16, .i64, .i64]) ((lf ls 7).lst (.rc [.i8, .i16, .i16, .i64, .i64])) := a6
  have w2 : EK.Ws (.rc [.i8, .i16, .i16, .i64, .i64]) ((lf ls 9).lst (.rc [.i8, .i16, .i16, .i64, .i64])) := b6
  rw [e6, e8, e0, e3, e1, e4]
  exact law3 m _ _ w1 w2 (by omega) (by omega) hm _
theorem law3' (ls : List Lf) (hw : WA ap3 ls) : g3K (g3 1048577) ls (fun v _ _ => saysTrue v) = some () := law3m 1048577 (by omega) ls hw
end Go.Proofs.Ytobejeiffgehfaa.Sx
