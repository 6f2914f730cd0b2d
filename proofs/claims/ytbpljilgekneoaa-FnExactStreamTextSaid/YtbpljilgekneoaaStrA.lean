/- Plain laws: rows of digits that are copied, compared and looked at; SameStream, ValidStream, DigitAt. Our own work. -/
import Derived.Test.YtbpljilgekneoaaSxV
import Derived.Test.YtbpljilgekneoaaSxQ
namespace Go.Proofs.Ytbpljilgekneoaa.Sx
open Go
set_option linter.unusedVariables false
set_option linter.unusedSimpArgs false
set_option maxRecDepth 100000
theorem wrapS {i : Nat} (h : i < 2000000000) : IntKind.wrap .i64 ((i : Int) + (1 : Int)) = ((i + 1 : Nat) : Int) := by rw [IntKind.wrap_i64]; omega
theorem wrapI {x : Int} (h1 : -9223372036854775808 ≤ x) (h2 : x ≤ 9223372036854775807) : IntKind.wrap .i64 x = x := by rw [IntKind.wrap_i64]; omega
theorem dT {p : Prop} [Decidable p] (h : p) : decide p = true := decide_eq_true h
theorem dF {p : Prop} [Decidable p] (h : ¬ p) : decide p = false := decide_eq_false h
theorem set_step {T : Type} (u : List T) (d : T) {i n : Nat} (h : i + (n + 1) = u.length) : (u.take i ++ List.replicate (n + 1) d).set i (u[i]'(by omega)) = u.take (i + 1) ++ List.replicate n d := by
  have hl : (u.take i).length = i := by rw [List.length_take]; omega
  rw [List.set_append_right _ _ (by omega), hl, Nat.sub_self, List.replicate_succ, List.set_cons_zero, List.take_succ_eq_append_getElem (by omega), List.append_assoc]; rfl
theorem getD_at {T : Type} (u : List T) (d : T) {i : Nat} (h : i < u.length) : List.getD u i d = u[i] := by simp [List.getD, h]
theorem cond_k {α : Type} (K : Bool → Option α) (b x y : Bool) : cond b (K x) (K y) = K (cond b x y) := by cases b <;> rfl
theorem getElem_drop_eq {T : Type} {u v : List T} {i : Nat} (hu : i < u.length) (hv : i < v.length) : (u.drop i = v.drop i) ↔ (u[i] = v[i] ∧ u.drop (i + 1) = v.drop (i + 1)) := by
  rw [List.drop_eq_getElem_cons hu, List.drop_eq_getElem_cons hv, List.cons.injEq]
theorem cond_dec {β : Type} {p q r : Prop} [Decidable p] [Decidable q] [Decidable r] (h : p ↔ q ∧ r) (x y : β) : cond (!(decide q)) y (cond (decide r) x y) = cond (decide p) x y := by
  by_cases hq : q <;> by_cases hr : r <;> simp [hq, hr, h]
theorem bne_dec (a b : Int) : (a != b) = !(decide (a = b)) := by by_cases h : a = b <;> simp [h]
/-! ### A copy -/
theorem g74s {α : Type} (lo len cap lo' len' cap' n : Nat) (u : List Int) (n' : Nat) (k : List Int → Option α) (m : Nat) (v : Int) (l : List Int) : g74l0 lo len cap lo' len' cap' n u n' k (m + 1) v l =
    cond (decide (v < ((len : Nat) : Int))) (if 0 ≤ v ∧ v < (len : Nat) then (if (lo + v.toNat) < n then (if 0 ≤ v ∧ v < (len' : Nat) then (if (lo' + v.toNat) < n' then
      g74l0 lo len cap lo' len' cap' n u n' k m (IntKind.wrap .i64 (v + (1 : Int))) (List.set l (lo' + v.toNat) (List.getD u (lo + v.toNat) 0)) else none) else none) else none) else none) (k l) := by kernel_rfl
theorem g74loop {α : Type} (cap : Nat) {u : List Int} (hlen : u.length ≤ 1048576) (k : List Int → Option α) : ∀ (d i m : Nat), i + d = u.length → d < m →
    g74l0 0 u.length cap 0 u.length u.length u.length u u.length k m (i : Int) (u.take i ++ List.replicate d 0) = k u
  | 0, i, m, hi, hm => by
    obtain ⟨m, rfl⟩ : ∃ n, m = n + 1 := ⟨m - 1, by omega⟩
    rw [g74s, dF (by omega), cond_false, List.take_of_length_le (by omega)]; simp
  | d + 1, i, m, hi, hm => by
    obtain ⟨m, rfl⟩ : ∃ n, m = n + 1 := ⟨m - 1, by omega⟩
    rw [g74s, dT (show (i : Int) < ((u.length : Nat) : Int) by omega), cond_true, if_pos ⟨by omega, by omega⟩, Int.toNat_natCast, Nat.zero_add, if_pos (show i < u.length by omega), if_pos ⟨by omega, by omega⟩,
      if_pos (show i < u.length by omega), getD_at u 0 (show i < u.length by omega), set_step u 0 hi, wrapS (by omega)]
    exact g74loop cap hlen k d (i + 1) m (by omega) (by omega)
theorem g74u {α : Type} (m lo len cap n : Nat) (u : List Int) (k : List Int → Option α) : g74 m lo len cap n u k =
    if ((len : Nat) : Int) = ((len : Nat) : Int) ∧ 0 ≤ ((len : Nat) : Int) ∧ ((len : Nat) : Int) ≤ 1048576 then g74l0 lo len cap 0 len len n u len k m ((0 : Nat) : Int) (List.replicate len 0) else none := by kernel_rfl
theorem g74L {α : Type} (m cap : Nat) {u : List Int} (hlen : u.length ≤ 1048576) (hm : u.length < m) (k : List Int → Option α) : g74 m 0 u.length cap u.length u k = k u := by
  rw [g74u, if_pos ⟨rfl, by omega, by omega⟩]
  exact g74loop cap hlen k u.length 0 m (by omega) hm
theorem g37u {α : Type} (m lo len cap lo' len' cap' n : Nat) (u : List Int) (n' : Nat) (u' : List Int) (k : List Int → List Int → Option α) : g37 m lo len cap lo' len' cap' n u n' u' k = g74 m lo len cap n u (fun l => g74 m lo' len' cap' n' u' (fun l' => k l l')) := by kernel_rfl
/-! ### Sizes -/
theorem g72u {α : Type} (m a len cap : Nat) (p : Int) (n : Nat) (u : List Int) (k : Int → Option α) : g72 m a len cap p n u k =
    cond (decide (IntKind.wrap .i64 (p - ((len : Nat) : Int)) < (0 : Int))) (k (-1)) (k (IntKind.wrap .i64 (p - ((len : Nat) : Int)))) := by kernel_rfl
theorem g72L {α : Type} (m a cap : Nat) (u : List Int) {p : Nat} (hp : p ≤ 1048576) (hl : u.length ≤ 9223372036854775807) (k : Int → Option α) : g72 m a u.length cap (p : Int) u.length u k = k (if u.length ≤ p then ((p - u.length : Nat) : Int) else -1) := by
  rw [g72u, wrapI (by omega) (by omega)]
  by_cases h : u.length ≤ p
  · rw [dF (by omega), cond_false, if_pos h]; congr 1; omega
  · rw [dT (by omega), cond_true, if_neg h]
theorem g35u {α : Type} (m lo len cap lo' len' cap' : Nat) (p : Int) (n : Nat) (u : List Int) (n' : Nat) (u' : List Int) (k : Int → Option α) : g35 m lo len cap lo' len' cap' p n u n' u' k =
    g72 m lo len cap p n u (fun x => cond (decide (x < 0)) (k (-1)) (g72 m lo' len' cap' x n' u' (fun x => cond (decide (x < 0)) (k (-1)) (k x)))) := by kernel_rfl
theorem g35L {α : Type} (m lo cap lo' cap' : Nat) {p : Nat} (hp : p ≤ 1048576) {u u' : List Int} (hu : u.length ≤ 9223372036854775807) (hu' : u'.length ≤ 9223372036854775807) (k : Int → Option α) :
    g35 m lo u.length cap lo' u'.length cap' (p : Int) u.length u u'.length u' k = k (if u.length + u'.length ≤ p then ((p - u.length - u'.length : Nat) : Int) else -1) := by
  rw [g35u, g72L m lo cap u hp hu]
  by_cases h : u.length ≤ p
  · rw [if_pos h, dF (by omega), cond_false, g72L m lo' cap' u' (by omega) hu']
    by_cases h' : u'.length ≤ p - u.length
    · rw [if_pos h', dF (by omega), cond_false, if_pos (by omega)]
    · rw [if_neg h', dT (by omega), cond_true, if_neg (by omega)]
  · rw [if_neg h, dT (by omega), cond_true, if_neg (by omega)]
/-! ### Equality -/
theorem g86s {α : Type} (lo len cap lo' len' cap' n : Nat) (u : List Int) (n' : Nat) (v : List Int) (kF kT : Option α) (m : Nat) (i : Int) : g86l0 lo len cap lo' len' cap' n u n' v kF kT (m + 1) i =
    cond (decide (i < ((len : Nat) : Int))) (if 0 ≤ i ∧ i < (len : Nat) then (if (lo + i.toNat) < n then (if 0 ≤ i ∧ i < (len' : Nat) then (if (lo' + i.toNat) < n' then
      cond ((List.getD u (lo + i.toNat) 0) != (List.getD v (lo' + i.toNat) 0)) kF (g86l0 lo len cap lo' len' cap' n u n' v kF kT m (IntKind.wrap .i64 (i + (1 : Int)))) else none) else none) else none) else none) kT := by kernel_rfl
theorem g86loop {α : Type} (cap cap' : Nat) {u v : List Int} (hlen : u.length ≤ 1048576) (hl : u.length = v.length) (kF kT : Option α) : ∀ (d i m : Nat), i + d = u.length → d < m →
    g86l0 0 u.length cap 0 v.length cap' u.length u v.length v kF kT m (i : Int) = cond (decide (u.drop i = v.drop i)) kT kF
  | 0, i, m, hi, hm => by
    obtain ⟨m, rfl⟩ : ∃ n, m = n + 1 := ⟨m - 1, by omega⟩
    rw [g86s, dF (by omega), cond_false, List.drop_eq_nil_of_le (by omega), List.drop_eq_nil_of_le (by omega), dT rfl]; rfl
  | d + 1, i, m, hi, hm => by
    obtain ⟨m, rfl⟩ : ∃ n, m = n + 1 := ⟨m - 1, by omega⟩
    have h1 : i < u.length := by omega
    have h2 : i < v.length := by omega
    rw [g86s, dT (show (i : Int) < ((u.length : Nat) : Int) by omega), cond_true, if_pos ⟨by omega, by omega⟩, Int.toNat_natCast, Nat.zero_add, if_pos h1, if_pos ⟨by omega, by omega⟩, if_pos h2,
      getD_at u 0 h1, getD_at v 0 h2, bne_dec, wrapS (by omega), g86loop cap cap' hlen hl kF kT d (i + 1) m (by omega) (by omega)]
    exact cond_dec (getElem_drop_eq h1 h2) kT kF
theorem g86u {α : Type} (m lo len cap lo' len' cap' n : Nat) (u : List Int) (n' : Nat) (v : List Int) (k : Bool → Option α) : g86 m lo len cap lo' len' cap' n u n' v k =
    cond (((len : Nat) : Int) != ((len' : Nat) : Int)) (k false) (g86l0 lo len cap lo' len' cap' n u n' v (k false) (k true) m ((0 : Nat) : Int)) := by kernel_rfl
theorem g86L {α : Type} (m cap cap' : Nat) {u v : List Int} (hlen : u.length ≤ 1048576) (hm : u.length < m) (k : Bool → Option α) : g86 m 0 u.length cap 0 v.length cap' u.length u v.length v k = k (decide (u = v)) := by
  rw [g86u]
  by_cases hl : u.length = v.length
  · rw [g86loop cap cap' hlen hl (k false) (k true) u.length 0 m (by omega) hm, hl, bne_self_eq_false, cond_false, List.drop_zero, List.drop_zero]
    by_cases h : u = v <;> simp [h]
  · rw [show (((u.length : Nat) : Int) != ((v.length : Nat) : Int)) = true from bne_iff_ne.2 (by omega), cond_true, dF (fun h => hl (by rw [h]))]
theorem g75s {α : Type} (lo len cap lo' len' cap' : Nat) (w : Int) (n : Nat) (u : List Int) (n' : Nat) (v : List Int) (kF kT : Option α) (m : Nat) (i : Int) : g75l0 lo len cap lo' len' cap' w n u n' v kF kT (m + 1) i =
    cond (decide (i < w)) (if 0 ≤ i ∧ i < (len : Nat) then (if (lo + i.toNat) < n then (if 0 ≤ i ∧ i < (len' : Nat) then (if (lo' + i.toNat) < n' then
      cond ((List.getD u (lo + i.toNat) 0) != (List.getD v (lo' + i.toNat) 0)) kF (g75l0 lo len cap lo' len' cap' w n u n' v kF kT m (IntKind.wrap .i64 (i + (1 : Int)))) else none) else none) else none) else none) kT := by kernel_rfl
theorem g75loop {α : Type} (cap cap' : Nat) {u v : List Int} (hlen : u.length ≤ 1048576) (hl : u.length = v.length) (kF kT : Option α) : ∀ (d i m : Nat), i + d = u.length → d < m →
    g75l0 0 u.length cap 0 v.length cap' ((u.length : Nat) : Int) u.length u v.length v kF kT m (i : Int) = cond (decide (u.drop i = v.drop i)) kT kF
  | 0, i, m, hi, hm => by
    obtain ⟨m, rfl⟩ : ∃ n, m = n + 1 := ⟨m - 1, by omega⟩
    rw [g75s, dF (by omega), cond_false, List.drop_eq_nil_of_le (by omega), List.drop_eq_nil_of_le (by omega), dT rfl]; rfl
  | d + 1, i, m, hi, hm => by
    obtain ⟨m, rfl⟩ : ∃ n, m = n + 1 := ⟨m - 1, by omega⟩
    have h1 : i < u.length := by omega
    have h2 : i < v.length := by omega
    rw [g75s, dT (show (i : Int) < ((u.length : Nat) : Int) by omega), cond_true, if_pos ⟨by omega, by omega⟩, Int.toNat_natCast, Nat.zero_add, if_pos h1, if_pos ⟨by omega, by omega⟩, if_pos h2,
      getD_at u 0 h1, getD_at v 0 h2, bne_dec, wrapS (by omega), g75loop cap cap' hlen hl kF kT d (i + 1) m (by omega) (by omega)]
    exact cond_dec (getElem_drop_eq h1 h2) kT kF
theorem g75u {α : Type} (m lo len cap lo' len' cap' n : Nat) (u : List Int) (n' : Nat) (v : List Int) (k : Bool → Option α) : g75 m lo len cap lo' len' cap' n u n' v k =
    cond (((len : Nat) : Int) != ((len' : Nat) : Int)) (k false) (g75l0 lo len cap lo' len' cap' ((len : Nat) : Int) n u n' v (k false) (k true) m ((0 : Nat) : Int)) := by kernel_rfl
theorem g75L {α : Type} (m cap cap' : Nat) {u v : List Int} (hlen : u.length ≤ 1048576) (hm : u.length < m) (k : Bool → Option α) : g75 m 0 u.length cap 0 v.length cap' u.length u v.length v k = k (decide (u = v)) := by
  rw [g75u]
  by_cases hl : u.length = v.length
  · rw [g75loop cap cap' hlen hl (k false) (k true) u.length 0 m (by omega) hm, hl, bne_self_eq_false, cond_false, List.drop_zero, List.drop_zero]
    by_cases h : u = v <;> simp [h]
  · rw [show (((u.length : Nat) : Int) != ((v.length : Nat) : Int)) = true from bne_iff_ne.2 (by omega), cond_true, dF (fun h => hl (by rw [h]))]
theorem g54s {α : Type} (lo len cap lo' len' cap' n : Nat) (u : List Int) (n' : Nat) (v : List Int) (kF kT : Option α) (m : Nat) (i : Int) : g54l0 lo len cap lo' len' cap' n u n' v kF kT (m + 1) i =
    cond (decide (i < ((len : Nat) : Int))) (if 0 ≤ i ∧ i < (len : Nat) then (if (lo + i.toNat) < n then (if 0 ≤ i ∧ i < (len' : Nat) then (if (lo' + i.toNat) < n' then
      cond ((List.getD u (lo + i.toNat) 0) != (List.getD v (lo' + i.toNat) 0)) kF (g54l0 lo len cap lo' len' cap' n u n' v kF kT m (IntKind.wrap .i64 (i + (1 : Int)))) else none) else none) else none) else none) kT := by kernel_rfl
theorem g54loop {α : Type} (cap cap' : Nat) {u v : List Int} (hlen : u.length ≤ 1048576) (hl : u.length = v.length) (kF kT : Option α) : ∀ (d i m : Nat), i + d = u.length → d < m →
    g54l0 0 u.length cap 0 v.length cap' u.length u v.length v kF kT m (i : Int) = cond (decide (u.drop i = v.drop i)) kT kF
  | 0, i, m, hi, hm => by
    obtain ⟨m, rfl⟩ : ∃ n, m = n + 1 := ⟨m - 1, by omega⟩
    rw [g54s, dF (by omega), cond_false, List.drop_eq_nil_of_le (by omega), List.drop_eq_nil_of_le (by omega), dT rfl]; rfl
  | d + 1, i, m, hi, hm => by
    obtain ⟨m, rfl⟩ : ∃ n, m = n + 1 := ⟨m - 1, by omega⟩
    have h1 : i < u.length := by omega
    have h2 : i < v.length := by omega
    rw [g54s, dT (show (i : Int) < ((u.length : Nat) : Int) by omega), cond_true, if_pos ⟨by omega, by omega⟩, Int.toNat_natCast, Nat.zero_add, if_pos h1, if_pos ⟨by omega, by omega⟩, if_pos h2,
      getD_at u 0 h1, getD_at v 0 h2, bne_dec, wrapS (by omega), g54loop cap cap' hlen hl kF kT d (i + 1) m (by omega) (by omega)]
    exact cond_dec (getElem_drop_eq h1 h2) kT kF
theorem g54u {α : Type} (m lo len cap lo' len' cap' n : Nat) (u : List Int) (n' : Nat) (v : List Int) (k : Bool → Option α) : g54 m lo len cap lo' len' cap' n u n' v k =
    cond (((len : Nat) : Int) != ((len' : Nat) : Int)) (k false) (g54l0 lo len cap lo' len' cap' n u n' v (k false) (k true) m ((0 : Nat) : Int)) := by kernel_rfl
theorem g54L {α : Type} (m cap cap' : Nat) {u v : List Int} (hlen : u.length ≤ 1048576) (hm : u.length < m) (k : Bool → Option α) : g54 m 0 u.length cap 0 v.length cap' u.length u v.length v k = k (decide (u = v)) := by
  rw [g54u]
  by_cases hl : u.length = v.length
  · rw [g54loop cap cap' hlen hl (k false) (k true) u.length 0 m (by omega) hm, hl, bne_self_eq_false, cond_false, List.drop_zero, List.drop_zero]
    by_cases h : u = v <;> simp [h]
  · rw [show (((u.length : Nat) : Int) != ((v.length : Nat) : Int)) = true from bne_iff_ne.2 (by omega), cond_true, dF (fun h => hl (by rw [h]))]
theorem g39u {α : Type} (m a1 a2 a3 b1 b2 b3 c1 c2 c3 d1 d2 d3 n1 : Nat) (u1 : List Int) (n2 : Nat) (u2 : List Int) (n3 : Nat) (u3 : List Int) (n4 : Nat) (u4 : List Int) (k : Bool → Option α) : g39 m a1 a2 a3 b1 b2 b3 c1 c2 c3 d1 d2 d3 n1 u1 n2 u2 n3 u3 n4 u4 k =
    g54 m a1 a2 a3 c1 c2 c3 n1 u1 n3 u3 (fun r => cond (!r) (k false) (g54 m b1 b2 b3 d1 d2 d3 n2 u2 n4 u4 (fun r => cond (!r) (k false) (k true)))) := by kernel_rfl
theorem g39T {α : Type} (m : Nat) (a3 b3 c3 d3 : Nat) {u v : List Int} (hu : u.length ≤ 1048576) (hv : v.length ≤ 1048576) (hm : 1048576 < m) (k : Bool → Option α) :
    g39 m 0 u.length a3 0 v.length b3 0 u.length c3 0 v.length d3 u.length u v.length v u.length u v.length v k = k true := by
  rw [g39u, g54L m a3 c3 hu (by omega), dT rfl, Bool.not_true, cond_false, g54L m b3 d3 hv (by omega), dT rfl, Bool.not_true, cond_false]
theorem g36u {α : Type} (m a1 a2 a3 b1 b2 b3 c1 c2 c3 d1 d2 d3 n1 : Nat) (u1 : List Int) (n2 : Nat) (u2 : List Int) (n3 : Nat) (u3 : List Int) (n4 : Nat) (u4 : List Int) (k : Bool → Option α) : g36 m a1 a2 a3 b1 b2 b3 c1 c2 c3 d1 d2 d3 n1 u1 n2 u2 n3 u3 n4 u4 k =
    g86 m a1 a2 a3 c1 c2 c3 n1 u1 n3 u3 (fun r => cond r (g86 m b1 b2 b3 d1 d2 d3 n2 u2 n4 u4 (fun r => k r)) (k false)) := by kernel_rfl
theorem g38u {α : Type} (m a1 a2 a3 b1 b2 b3 c1 c2 c3 d1 d2 d3 n1 : Nat) (u1 : List Int) (n2 : Nat) (u2 : List Int) (n3 : Nat) (u3 : List Int) (n4 : Nat) (u4 : List Int) (k : Bool → Option α) : g38 m a1 a2 a3 b1 b2 b3 c1 c2 c3 d1 d2 d3 n1 u1 n2 u2 n3 u3 n4 u4 k =
    g75 m a1 a2 a3 c1 c2 c3 n1 u1 n3 u3 (fun r => cond r (g75 m b1 b2 b3 d1 d2 d3 n2 u2 n4 u4 (fun r => k r)) (k false)) := by kernel_rfl
theorem g36L {α : Type} (m a3 b3 c3 d3 : Nat) {u1 u2 u3 u4 : List Int} (h1 : u1.length ≤ 1048576) (h2 : u2.length ≤ 1048576) (hm : 1048576 < m) (k : Bool → Option α) :
    g36 m 0 u1.length a3 0 u2.length b3 0 u3.length c3 0 u4.length d3 u1.length u1 u2.length u2 u3.length u3 u4.length u4 k = k (cond (decide (u1 = u3)) (decide (u2 = u4)) false) := by
  rw [g36u, g86L m _ _ h1 (by omega), g86L m _ _ h2 (by omega), cond_k]
theorem g38L {α : Type} (m a3 b3 c3 d3 : Nat) {u1 u2 u3 u4 : List Int} (h1 : u1.length ≤ 1048576) (h2 : u2.length ≤ 1048576) (hm : 1048576 < m) (k : Bool → Option α) :
    g38 m 0 u1.length a3 0 u2.length b3 0 u3.length c3 0 u4.length d3 u1.length u1 u2.length u2 u3.length u3 u4.length u4 k = k (cond (decide (u1 = u3)) (decide (u2 = u4)) false) := by
  rw [g38u, g75L m _ _ h1 (by omega), g75L m _ _ h2 (by omega), cond_k]
theorem g37L {α : Type} (m a3 b3 : Nat) {u1 u2 : List Int} (h1 : u1.length ≤ 1048576) (h2 : u2.length ≤ 1048576) (hm : 1048576 < m) (k : List Int → List Int → Option α) : g37 m 0 u1.length a3 0 u2.length b3 u1.length u1 u2.length u2 k = k u1 u2 := by
  rw [g37u, g74L m a3 h1 (by omega), g74L m b3 h2 (by omega)]
theorem maxLen_eq : maxLen = 9223372036854775807 := by kernel_rfl
/-! ### SameStream -/
theorem g10U {α : Type} (m a1 a2 a3 b1 b2 b3 c1 c2 c3 d1 d2 d3 n1 : Nat) (u1 : List Int) (n2 : Nat) (u2 : List Int) (n3 : Nat) (u3 : List Int) (n4 : Nat) (u4 : List Int) (k : Bool → Option α) : g10 m a1 a2 a3 b1 b2 b3 c1 c2 c3 d1 d2 d3 n1 u1 n2 u2 n3 u3 n4 u4 k =
    g35 m a1 a2 a3 b1 b2 b3 1048576 n1 u1 n2 u2 (fun x => cond (decide (x < 0)) (k true) (g35 m c1 c2 c3 d1 d2 d3 x n3 u3 n4 u4 (fun x => cond (decide (x < 0)) (k true)
      (g37 m a1 a2 a3 b1 b2 b3 n1 u1 n2 u2 (fun p1 p2 => g37 m c1 c2 c3 d1 d2 d3 n3 u3 n4 u4 (fun p3 p4 => g36 m 0 a2 a2 0 b2 b2 0 c2 c2 0 d2 d2 a2 p1 b2 p2 c2 p3 d2 p4 (fun r =>
      g37 m a1 a2 a3 b1 b2 b3 n1 u1 n2 u2 (fun p1 p2 => g37 m c1 c2 c3 d1 d2 d3 n3 u3 n4 u4 (fun p3 p4 => g38 m 0 a2 a2 0 b2 b2 0 c2 c2 0 d2 d2 a2 p1 b2 p2 c2 p3 d2 p4 (fun r' => cond (!(r' == r)) (k false)
      (g37 m a1 a2 a3 b1 b2 b3 n1 u1 n2 u2 (fun q1 q2 => g39 m 0 a2 a2 0 b2 b2 0 a2 a2 0 b2 b2 a2 p1 b2 p2 a2 q1 b2 q2 (fun r => cond (!r) (k false)
      (g37 m c1 c2 c3 d1 d2 d3 n3 u3 n4 u4 (fun q3 q4 => g39 m 0 c2 c2 0 d2 d2 0 c2 c2 0 d2 d2 c2 p3 d2 p4 c2 q3 d2 q4 (fun r => cond (!r) (k false) (k true))))))))))))))))) := by kernel_rfl
theorem law10 {α : Type} (m a3 b3 c3 d3 : Nat) {u1 u2 u3 u4 : List Int} (h1 : u1.length ≤ 9223372036854775807) (h2 : u2.length ≤ 9223372036854775807) (h3 : u3.length ≤ 9223372036854775807) (h4 : u4.length ≤ 9223372036854775807) (hm : 1048576 < m) (k : Bool → Option α) :
    g10 m 0 u1.length a3 0 u2.length b3 0 u3.length c3 0 u4.length d3 u1.length u1 u2.length u2 u3.length u3 u4.length u4 k = k true := by
  rw [g10U, show (1048576 : Int) = ((1048576 : Nat) : Int) from rfl, g35L m 0 a3 0 b3 (Nat.le_refl _) h1 h2]
  by_cases hul : u1.length + u2.length ≤ 1048576
  · rw [if_pos hul, dF (by omega), cond_false, g35L m 0 c3 0 d3 (by omega) h3 h4]
    by_cases hvl : u3.length + u4.length ≤ 1048576 - u1.length - u2.length
    · rw [if_pos hvl, dF (by omega), cond_false]
      have q1 : u1.length ≤ 1048576 := by omega
      have q2 : u2.length ≤ 1048576 := by omega
      have q3 : u3.length ≤ 1048576 := by omega
      have q4 : u4.length ≤ 1048576 := by omega
      rw [g37L m _ _ q1 q2 hm, g37L m _ _ q3 q4 hm, g36L m _ _ _ _ q1 q2 hm, g37L m _ _ q1 q2 hm, g37L m _ _ q3 q4 hm, g38L m _ _ _ _ q1 q2 hm, beq_self_eq_true, Bool.not_true, cond_false,
        g37L m _ _ q1 q2 hm, g39T m _ _ _ _ q1 q2 hm, Bool.not_true, cond_false, g37L m _ _ q3 q4 hm, g39T m _ _ _ _ q3 q4 hm, Bool.not_true, cond_false]
    · rw [if_neg hvl, dT (by omega), cond_true]
  · rw [if_neg hul, dT (by omega), cond_true]
def ap10 : List AP := [.st [.s (.int .i8), .s (.int .i8)], .st [.s (.int .i8), .s (.int .i8)]]
theorem law10m (m : Nat) (hm : 1048576 < m) (ls : List Lf) (hw : WA ap10 ls) : g10K (g10 m) ls (fun v _ _ => saysTrue v) = some () := by
  obtain ⟨⟨⟨a1, a2, a3, a4, a5, a6⟩, ⟨b1, b2, b3, b4, b5, b6⟩, _⟩, ⟨⟨c1, c2, c3, c4, c5, c6⟩, ⟨d1, d2, d3, d4, d5, d6⟩, _⟩, _⟩ := hw
  rw [maxLen_eq] at a4 b4 c4 d4
  unfold g10K
  have e0 : (lf ls 0).nat = 0 := a1
  have e3 : (lf ls 3).nat = 0 := b1
  have e6 : (lf ls 6).nat = 0 := c1
  have e9 : (lf ls 9).nat = 0 := d1
  have e1 : (lf ls 1).nat = ((lf ls 13).lst (.int .i8)).length := a5.symm
  have e4 : (lf ls 4).nat = ((lf ls 15).lst (.int .i8)).length := b5.symm
  have e7 : (lf ls 7).nat = ((lf ls 17).lst (.int .i8)).length := c5.symm
  have e10 : (lf ls 10).nat = ((lf ls 19).lst (.int .i8)).length := d5.symm
  have e12 : (lf ls 12).nat = (lf ls 1).nat := a2
  have e14 : (lf ls 14).nat = (lf ls 4).nat := b2
  have e16 : (lf ls 16).nat = (lf ls 7).nat := c2
  have e18 : (lf ls 18).nat = (lf ls 10).nat := d2
  have x1 : (lf ls 1).nat ≤ 9223372036854775807 := Nat.le_trans a3 a4
  have x2 : (lf ls 4).nat ≤ 9223372036854775807 := Nat.le_trans b3 b4
  have x3 : (lf ls 7).nat ≤ 9223372036854775807 := Nat.le_trans c3 c4
  have x4 : (lf ls 10).nat ≤ 9223372036854775807 := Nat.le_trans d3 d4
  rw [e1] at x1
  rw [e4] at x2
  rw [e7] at x3
  rw [e10] at x4
  rw [e12, e14, e16, e18, e0, e3, e6, e9, e1, e4, e7, e10]
  exact law10 m _ _ _ _ x1 x2 x3 x4 hm _
theorem law10' (ls : List Lf) (hw : WA ap10 ls) : g10K (g10 1048577) ls (fun v _ _ => saysTrue v) = some () := law10m 1048577 (by omega) ls hw
end Go.Proofs.Ytbpljilgekneoaa.Sx
