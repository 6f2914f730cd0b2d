/- Plain laws: streams that are made; StreamText, NegStream, HalfStream, DigitsOf. Our own work. -/
import Derived.Test.YtbpljilgekneoaaSxU
import Derived.Test.YtbpljilgekneoaaStrB
namespace Go.Proofs.Ytbpljilgekneoaa.Sx
open Go
set_option linter.unusedVariables false
set_option linter.unusedSimpArgs false
set_option maxRecDepth 100000
/-- A loop that counts up: what it comes to from each number. -/
theorem loopR {β : Type} (F : Nat → Nat → β) (R : Nat → β) (n : Nat) (he : ∀ m, F (m + 1) n = R n) (hs : ∀ m i, i < n → F m (i + 1) = R (i + 1) → F (m + 1) i = R i) : ∀ (d i m : Nat), i + d = n → d < m → F m i = R i
  | 0, i, m, hi, hm => by
    obtain ⟨m, rfl⟩ : ∃ n, m = n + 1 := ⟨m - 1, by omega⟩
    obtain rfl : i = n := by omega
    exact he m
  | d + 1, i, m, hi, hm => by
    obtain ⟨m, rfl⟩ : ∃ n, m = n + 1 := ⟨m - 1, by omega⟩
    exact hs m i (by omega) (loopR F R n he hs d (i + 1) m (by omega) (by omega))
theorem take_snoc {T : Type} (l : List T) {i : Nat} (h : i < l.length) : l.take i ++ [l[i]] = l.take (i + 1) := by rw [List.take_succ_eq_append_getElem h]
theorem set_over {T : Type} (l u : List T) {i : Nat} (h : i < l.length) (hl : l.length = u.length) : (l.take i ++ u.drop i).set i l[i] = l.take (i + 1) ++ u.drop (i + 1) := by
  have h1 : (l.take i).length = i := by rw [List.length_take]; omega
  rw [List.set_append_right _ _ (by omega), h1, Nat.sub_self, List.drop_eq_getElem_cons (by omega), List.set_cons_zero, List.take_succ_eq_append_getElem h, List.append_assoc]; rfl
theorem getD_map {S T : Type} (f : S → T) (u : List S) (d : S) {i : Nat} (h : i < u.length) : f (List.getD u i d) = (u.map f)[i]'(by simpa using h) := by simp [List.getD, h]
theorem cast_lt {i n : Nat} (h : i < n) : (0 : Int) ≤ (i : Int) ∧ (i : Int) < (n : Nat) := ⟨by omega, by omega⟩
/-! ### Rows that are compared -/
theorem g54v4L {α : Type} (m cap n : Nat) {u v : List Int} (hn : u.length = n) (hlen : u.length ≤ 1048576) (hm : 1048576 < m) (k : Bool → Option α) : g54v4 m 0 n cap n u v k = k (decide (u = v)) := by
  subst hn
  rw [g54v4_o]
  by_cases hl : u.length = v.length
  · rw [show (((u.length : Nat) : Int) != ((v.length : Nat) : Int)) = false by rw [hl]; exact bne_self_eq_false _, cond_false, show (0 : Int) = ((0 : Nat) : Int) from rfl,
      loopR (fun m i => g54v4l0 0 u.length cap u.length u v (k false) (k true) m (i : Int)) (fun i => cond (decide (u.drop i = v.drop i)) (k true) (k false)) u.length (fun m => ?_) (fun m i hi h => ?_) u.length 0 m (by omega) (by omega)]
    · rw [List.drop_zero, List.drop_zero, cond_k]; cases decide (u = v) <;> rfl
    · rw [g54v4l0_s, dF (by omega), cond_false, List.drop_eq_nil_of_le (by omega), List.drop_eq_nil_of_le (by omega), dT rfl]; rfl
    · have hv : i < v.length := by omega
      rw [g54v4l0_s, dT (by omega), cond_true, if_pos (cast_lt hi), Int.toNat_natCast, Nat.zero_add, if_pos hi, if_pos (cast_lt hv), if_pos hv, getD_at u 0 hi, getD_at v 0 hv, bne_dec, wrapS (by omega), h]
      exact cond_dec (getElem_drop_eq hi hv) _ _
  · rw [show (((u.length : Nat) : Int) != ((v.length : Nat) : Int)) = true from bne_iff_ne.2 (by omega), cond_true, dF (fun h => hl (by rw [h]))]
theorem g54v6L {α : Type} (m : Nat) {u v : List Int} (hlen : u.length ≤ 1048576) (hm : 1048576 < m) (k : Bool → Option α) : g54v6 m u v k = k (decide (u = v)) := by
  rw [g54v6_o]
  by_cases hl : u.length = v.length
  · rw [show (((u.length : Nat) : Int) != ((v.length : Nat) : Int)) = false by rw [hl]; exact bne_self_eq_false _, cond_false, show (0 : Int) = ((0 : Nat) : Int) from rfl,
      loopR (fun m i => g54v6l0 u v (k false) (k true) m (i : Int)) (fun i => cond (decide (u.drop i = v.drop i)) (k true) (k false)) u.length (fun m => ?_) (fun m i hi h => ?_) u.length 0 m (by omega) (by omega)]
    · rw [List.drop_zero, List.drop_zero, cond_k]; cases decide (u = v) <;> rfl
    · rw [g54v6l0_s, dF (by omega), cond_false, List.drop_eq_nil_of_le (by omega), List.drop_eq_nil_of_le (by omega), dT rfl]; rfl
    · have hv : i < v.length := by omega
      rw [g54v6l0_s, dT (by omega), cond_true, if_pos (cast_lt hi), Int.toNat_natCast, if_pos hi, if_pos (cast_lt hv), if_pos hv, getD_at u 0 hi, getD_at v 0 hv, bne_dec, wrapS (by omega), h]
      exact cond_dec (getElem_drop_eq hi hv) _ _
  · rw [show (((u.length : Nat) : Int) != ((v.length : Nat) : Int)) = true from bne_iff_ne.2 (by omega), cond_true, dF (fun h => hl (by rw [h]))]
theorem g54v1L {α : Type} (m : Nat) (hm : 0 < m) (k : Option α) : g54v1 m k = k := by
  obtain ⟨m, rfl⟩ : ∃ n, m = n + 1 := ⟨m - 1, by omega⟩
  rw [g54v1_o, g54v1l0_s]; rfl
theorem g54v3L {α : Type} (m : Nat) (hm : 0 < m) (k : Bool → Option α) : g54v3 m [] k = k true := by
  obtain ⟨m, rfl⟩ : ∃ n, m = n + 1 := ⟨m - 1, by omega⟩
  rw [g54v3_o, g54v3l0_s]; rfl
theorem g39v1L {α : Type} (m : Nat) (hm : 0 < m) (k : Option α) : g39v1 m k = k := by rw [g39v1_o, g54v1L m hm, g54v1L m hm]
theorem g39v4L {α : Type} (m a b n1 n2 : Nat) {u v u' v' : List Int} (h1 : u.length = n1) (h2 : v.length = n2) (hu : u.length ≤ 1048576) (hv : v.length ≤ 1048576) (hm : 1048576 < m) (k : Bool → Option α) :
    g39v4 m 0 n1 a 0 n2 b n1 u n2 v u' v' k = k (decide (u = u') && decide (v = v')) := by
  rw [g39v4_o, g54v4L m a n1 h1 hu hm, g54v4L m b n2 h2 hv hm]
  cases decide (u = u') <;> cases decide (v = v') <;> rfl
theorem g39v6L {α : Type} (m : Nat) {u v u' v' : List Int} (hu : u.length ≤ 1048576) (hv : v.length ≤ 1048576) (hm : 1048576 < m) (k : Bool → Option α) :
    g39v6 m u v u' v' k = k (decide (u = u') && decide (v = v')) := by
  rw [g39v6_o, g54v6L m hu hm, g54v6L m hv hm]
  cases decide (u = u') <;> cases decide (v = v') <;> rfl
/-! ### Marks -/
def marks (p : Int) (n : Nat) : List Int := (List.range n).map fun (i : Nat) => IntKind.wrap .i8 (p + (i : Int))
theorem marks_length (p : Int) (n : Nat) : (marks p n).length = n := by simp [marks]
theorem marks_at (p : Int) {n i : Nat} (h : i < n) : (marks p n)[i]'(by rw [marks_length]; exact h) = IntKind.wrap .i8 (p + (i : Int)) := by simp [marks]
theorem g55L {α : Type} (m cap n : Nat) {u : List Int} (hn : u.length = n) (hlen : n ≤ 1048576) (hm : 1048576 < m) {p : Int} (h0 : 0 ≤ p) (h1 : p ≤ 1099511627776) (k : Int → List Int → Option α) :
    g55 m 0 n cap p n u k = k (p + n) (marks p n) := by
  rw [g55_o]
  have := loopR (fun m i => g55l0 0 n cap n (fun x l => k x l) m (p + (i : Int)) (i : Int) ((marks p n).take i ++ u.drop i)) (fun i => k (p + n) (marks p n)) n (fun m => ?_) (fun m i hi h => ?_) n 0 m (by omega) (by omega)
  · simpa using this
  · rw [g55l0_s, dF (by omega), cond_false, List.drop_eq_nil_of_le (by omega), List.append_nil, List.take_of_length_le (by rw [marks_length]; omega)]
  · rw [g55l0_s, dT (by omega), cond_true, if_pos (cast_lt hi), Int.toNat_natCast, Nat.zero_add, if_pos hi, wrapS (by omega), wrapI (x := p + (i : Int) + 1) (by omega) (by omega), ← marks_at p hi,
      set_over _ _ (by rw [marks_length]; exact hi) (by rw [marks_length, hn])]
    rw [← h]; congr 1
    · omega
theorem g56v1L {α : Type} (m cap n : Nat) (hlen : n ≤ 1048576) (hm : 1048576 < m) {p : Int} (h0 : 0 ≤ p) (h1 : p ≤ 1099511627776) (k : Int → Option α) :
    g56v1 m 0 n cap p n (marks p n) k = k (p + n) := by
  rw [g56v1_o]
  have := loopR (fun m i => g56v1l0 0 n cap n (marks p n) (k (-1)) (fun x => k x) m (p + (i : Int)) (i : Int)) (fun i => k (p + n)) n (fun m => ?_) (fun m i hi h => ?_) n 0 m (by omega) (by omega)
  · simpa using this
  · rw [g56v1l0_s, dF (by omega), cond_false]
  · rw [g56v1l0_s, dT (by omega), cond_true, if_pos (cast_lt hi), Int.toNat_natCast, Nat.zero_add, if_pos hi, getD_at _ 0 (by rw [marks_length]; exact hi), marks_at p hi, bne_self_eq_false, cond_false, wrapS (by omega),
      wrapI (x := p + (i : Int) + 1) (by omega) (by omega), ← h]
    congr 1
    omega
theorem g55v2L {α : Type} (m : Nat) {u : List Int} (hlen : u.length ≤ 1048576) (hm : 1048576 < m) {p : Int} (h0 : 0 ≤ p) (h1 : p ≤ 1099511627776) (k : Int → List Int → Option α) :
    g55v2 m p u k = k (p + u.length) (marks p u.length) := by
  rw [g55v2_o]
  have := loopR (fun m i => g55v2l0 (fun x l => k x l) m (p + (i : Int)) (i : Int) ((marks p u.length).take i ++ u.drop i)) (fun i => k (p + u.length) (marks p u.length)) u.length (fun m => ?_) (fun m i hi h => ?_) u.length 0 m (by omega) (by omega)
  · simpa using this
  · have hl : ((marks p u.length).take u.length ++ u.drop u.length).length = u.length := by rw [List.length_append, List.length_take, List.length_drop, marks_length]; omega
    rw [g55v2l0_s, hl, dF (by omega), cond_false, List.drop_eq_nil_of_le (by omega), List.append_nil, List.take_of_length_le (by rw [marks_length]; omega)]
  · have hl : ((marks p u.length).take i ++ u.drop i).length = u.length := by rw [List.length_append, List.length_take, List.length_drop, marks_length]; omega
    rw [g55v2l0_s, hl, dT (by omega), cond_true, if_pos (cast_lt hi), Int.toNat_natCast, if_pos hi, wrapS (by omega), wrapI (x := p + (i : Int) + 1) (by omega) (by omega), ← marks_at p hi,
      set_over _ _ (by rw [marks_length]; exact hi) (by rw [marks_length])]
    rw [← h]; congr 1
    · omega
theorem g56v2L {α : Type} (m n : Nat) (hlen : n ≤ 1048576) (hm : 1048576 < m) {p : Int} (h0 : 0 ≤ p) (h1 : p ≤ 1099511627776) (k : Int → Option α) :
    g56v2 m p (marks p n) k = k (p + n) := by
  rw [g56v2_o]
  have := loopR (fun m i => g56v2l0 (marks p n) (k (-1)) (fun x => k x) m (p + (i : Int)) (i : Int)) (fun i => k (p + n)) n (fun m => ?_) (fun m i hi h => ?_) n 0 m (by omega) (by omega)
  · simpa using this
  · rw [g56v2l0_s, marks_length, dF (by omega), cond_false]
  · rw [g56v2l0_s, marks_length, dT (by omega), cond_true, if_pos (cast_lt hi), Int.toNat_natCast, if_pos hi, getD_at _ 0 (by rw [marks_length]; exact hi), marks_at p hi, bne_self_eq_false, cond_false, wrapS (by omega),
      wrapI (x := p + (i : Int) + 1) (by omega) (by omega), ← h]
    congr 1
    omega
theorem g48L {α : Type} (m a b n1 n2 : Nat) {u v : List Int} (h1 : u.length = n1) (h2 : v.length = n2) (hu : n1 ≤ 1048576) (hv : n2 ≤ 1048576) (hm : 1048576 < m) (k : Int → List Int → List Int → Option α) :
    g48 m 0 n1 a 0 n2 b (1 : Int) n1 u n2 v k = k (1 + n1 + n2) (marks 1 n1) (marks (1 + n1) n2) := by
  rw [g48_o, g55L m a n1 h1 hu hm (by omega) (by omega), g55L m b n2 h2 hv hm (by omega) (by omega)]
theorem g49v1L {α : Type} (m a b n1 n2 : Nat) (hu : n1 ≤ 1048576) (hv : n2 ≤ 1048576) (hm : 1048576 < m) (k : Int → Option α) :
    g49v1 m 0 n1 a 0 n2 b (1 : Int) n1 (marks 1 n1) n2 (marks (1 + n1) n2) k = k (1 + n1 + n2) := by
  rw [g49v1_o, g56v1L m a n1 hu hm (by omega) (by omega), dF (by omega), cond_false, g56v1L m b n2 hv hm (by omega) (by omega), dF (by omega), cond_false]
theorem g48v2L {α : Type} (m : Nat) {u v : List Int} (hu : u.length ≤ 1048576) (hv : v.length ≤ 1048576) (hm : 1048576 < m) (k : Int → List Int → List Int → Option α) :
    g48v2 m (1 : Int) u v k = k (1 + u.length + v.length) (marks 1 u.length) (marks (1 + u.length) v.length) := by
  rw [g48v2_o, g55v2L m hu hm (by omega) (by omega), g55v2L m hv hm (by omega) (by omega)]
theorem g49v2L {α : Type} (m n1 n2 : Nat) (hu : n1 ≤ 1048576) (hv : n2 ≤ 1048576) (hm : 1048576 < m) (k : Int → Option α) :
    g49v2 m (1 : Int) (marks 1 n1) (marks (1 + n1) n2) k = k (1 + n1 + n2) := by
  rw [g49v2_o, g56v2L m n1 hu hm (by omega) (by omega), dF (by omega), cond_false, g56v2L m n2 hv hm (by omega) (by omega), dF (by omega), cond_false]
theorem g55v1L {α : Type} (m : Nat) (hm : 0 < m) (p : Int) (k : Option α) : g55v1 m p k = k := by
  obtain ⟨m, rfl⟩ : ∃ n, m = n + 1 := ⟨m - 1, by omega⟩
  rw [g55v1_o, g55v1l0_s]; rfl
theorem g56L {α : Type} (m : Nat) (hm : 0 < m) (p : Int) (k : Option α) : g56 m p k = k := by
  obtain ⟨m, rfl⟩ : ∃ n, m = n + 1 := ⟨m - 1, by omega⟩
  rw [g56_o, g56l0_s]; rfl
theorem g48v1L {α : Type} (m : Nat) (hm : 0 < m) (p : Int) (k : Option α) : g48v1 m p k = k := by rw [g48v1_o, g55v1L m hm, g55v1L m hm]
theorem g49L {α : Type} (m : Nat) (hm : 0 < m) (k : Int → Option α) : g49 m (1 : Int) k = k 1 := by
  rw [g49_o, g56L m hm, dF (by omega), cond_false, g56L m hm, cond_false]
/-! ### NegStream -/
def neg8 (x : Int) : Int := IntKind.wrap .i8 (0 - x)
def negL (u : List Int) : List Int := u.map neg8
theorem negL_length (u : List Int) : (negL u).length = u.length := by simp [negL]
theorem g82L {α : Type} (m cap : Nat) {u : List Int} (hlen : u.length ≤ 1048576) (hm : 1048576 < m) (k : List Int → Option α) : g82 m 0 u.length cap u.length u k = k (negL u) := by
  rw [g82_o]
  have := loopR (fun m i => g82l0 0 u.length cap u.length u (fun l => k l) m (i : Int) ((negL u).take i)) (fun i => k (negL u)) u.length (fun m => ?_) (fun m i hi h => ?_) u.length 0 m (by omega) (by omega)
  · simpa using this
  · rw [g82l0_s, dF (by omega), cond_false, List.take_of_length_le (by rw [negL_length]; omega)]
  · have hi' : i < (negL u).length := by rw [negL_length]; exact hi
    rw [g82l0_s, dT (by omega), cond_true, if_pos (cast_lt hi), Int.toNat_natCast, Nat.zero_add, if_pos hi, if_pos (by rw [List.length_take]; omega), wrapS (by omega)]
    have e : IntKind.wrap .i8 (0 - List.getD u i 0) = (negL u)[i] := getD_map neg8 u 0 hi
    rw [e, take_snoc _ hi']; exact h
theorem set_zero (l : List Int) {i : Nat} (h : i < l.length) : (l.take i ++ List.replicate (l.length - i) 0).set i l[i] = l.take (i + 1) ++ List.replicate (l.length - (i + 1)) 0 := by
  have e : l.length - i = l.length - (i + 1) + 1 := by omega
  rw [e]
  exact set_step l (0 : Int) (by omega)
theorem g83L {α : Type} (m cap : Nat) {u : List Int} (hlen : u.length ≤ 1048576) (hm : 1048576 < m) (k : List Int → Option α) : g83 m 0 u.length cap u.length u k = k (negL u) := by
  rw [g83_o, if_pos ⟨rfl, by omega, by omega⟩]
  have := loopR (fun m i => g83l0 0 u.length u.length 0 u.length cap ((u.length : Nat) : Int) u.length u u.length (fun l => k l) m (i : Int) ((negL u).take i ++ List.replicate ((negL u).length - i) 0)) (fun i => k (negL u)) u.length
    (fun m => ?_) (fun m i hi h => ?_) u.length 0 m (by omega) (by omega)
  · simpa [negL_length] using this
  · rw [g83l0_s, dF (by omega), cond_false, List.take_of_length_le (by rw [negL_length]; omega), negL_length, Nat.sub_self, List.replicate_zero, List.append_nil]
  · have hi' : i < (negL u).length := by rw [negL_length]; exact hi
    rw [g83l0_s, dT (by omega), cond_true, if_pos (cast_lt hi), Int.toNat_natCast, Nat.zero_add, if_pos hi, if_pos (cast_lt hi), if_pos hi, wrapS (by omega)]
    have e : IntKind.wrap .i8 (0 - List.getD u i 0) = (negL u)[i] := getD_map neg8 u 0 hi
    rw [e, set_zero _ hi']; exact h
theorem g46T {α : Type} (m a b : Nat) {u v : List Int} (hu : u.length ≤ 1048576) (hv : v.length ≤ 1048576) (hm : 1048576 < m) (h : okS u v = true) (k1 : Option α) (k : List Int → List Int → Option α) :
    g46 m 0 u.length a 0 v.length b u.length u v.length v k1 k = k (negL u) (negL v) := by
  rw [g46_o, g76L m a b hu hv hm, h, Bool.not_true, cond_false, g82L m a hu hm, g82L m b hv hm]
theorem g46F {α : Type} (m a b : Nat) {u v : List Int} (hu : u.length ≤ 1048576) (hv : v.length ≤ 1048576) (hm : 1048576 < m) (h : okS u v = false) (k1 : Option α) (k : List Int → List Int → Option α) :
    g46 m 0 u.length a 0 v.length b u.length u v.length v k1 k = k1 := by
  rw [g46_o, g76L m a b hu hv hm, h]; rfl
theorem g47T {α : Type} (m a b : Nat) {u v : List Int} (hu : u.length ≤ 1048576) (hv : v.length ≤ 1048576) (hm : 1048576 < m) (h : okS u v = true) (k1 : Option α) (k : List Int → List Int → Option α) :
    g47 m 0 u.length a 0 v.length b u.length u v.length v k1 k = k (negL u) (negL v) := by
  rw [g47_o, g41L m a b hu hv hm, h, Bool.not_true, cond_false, g83L m a hu hm, g83L m b hv hm]
theorem g47F {α : Type} (m a b : Nat) {u v : List Int} (hu : u.length ≤ 1048576) (hv : v.length ≤ 1048576) (hm : 1048576 < m) (h : okS u v = false) (k1 : Option α) (k : List Int → List Int → Option α) :
    g47 m 0 u.length a 0 v.length b u.length u v.length v k1 k = k1 := by
  rw [g47_o, g41L m a b hu hv hm, h]; rfl
theorem law14 {α : Type} (m a3 b3 : Nat) {u1 u2 : List Int} (h1 : u1.length ≤ 9223372036854775807) (h2 : u2.length ≤ 9223372036854775807) (hm : 1048576 < m) (k : Bool → Option α) : g14 m 0 u1.length a3 0 u2.length b3 u1.length u1 u2.length u2 k = k true := by
  rw [g14_o, show (1048576 : Int) = ((1048576 : Nat) : Int) from rfl, g35L m 0 a3 0 b3 (Nat.le_refl _) h1 h2]
  by_cases hul : u1.length + u2.length ≤ 1048576
  · have q1 : u1.length ≤ 1048576 := by omega
    have q2 : u2.length ≤ 1048576 := by omega
    have m0 : 0 < m := by omega
    have l1 := negL_length u1
    have l2 := negL_length u2
    rw [if_pos hul, dF (by omega), cond_false, g37L m _ _ q1 q2 hm]
    cases hok : okS u1 u2
    · rw [g46F m _ _ q1 q2 hm hok, g37L m _ _ q1 q2 hm, g47F m _ _ q1 q2 hm hok, g39v1L m m0, g37L m _ _ q1 q2 hm, g39T m _ _ _ _ q1 q2 hm, Bool.not_true, cond_false, g48L m _ _ _ _ rfl rfl q1 q2 hm, dF (by omega), cond_false,
        g39v1L m m0, g48v1L m m0, g49L m m0, dF (by omega), cond_false, bne_self_eq_false, cond_false, g37L m _ _ q1 q2 hm, g47F m _ _ q1 q2 hm hok, g39v1L m m0, g49L m m0, dF (by omega), cond_false, bne_self_eq_false, cond_false]
    · rw [g46T m _ _ q1 q2 hm hok, g37L m _ _ q1 q2 hm, g47T m _ _ q1 q2 hm hok, g39v4L m _ _ _ _ l1 l2 (by omega) (by omega) hm, dT rfl, dT rfl, Bool.and_self, Bool.not_true, cond_false, g37L m _ _ q1 q2 hm, g39T m _ _ _ _ q1 q2 hm,
        Bool.not_true, cond_false, g48L m _ _ _ _ rfl rfl q1 q2 hm, dF (by omega), cond_false, g39v4L m _ _ _ _ l1 l2 (by omega) (by omega) hm, dT rfl, dT rfl, Bool.and_self, Bool.not_true, cond_false, g48L m _ _ _ _ l1 l2 q1 q2 hm,
        g49v1L m _ _ _ _ q1 q2 hm, dF (by omega), cond_false, bne_self_eq_false, cond_false, g37L m _ _ q1 q2 hm, g47T m _ _ q1 q2 hm hok, g39v4L m _ _ _ _ l1 l2 (by omega) (by omega) hm, dT rfl, dT rfl, Bool.and_self, Bool.not_true, cond_false,
        g49v1L m _ _ _ _ q1 q2 hm, dF (by omega), cond_false, bne_self_eq_false, cond_false]
  · rw [if_neg hul, dT (by omega), cond_true]
theorem law14m (m : Nat) (hm : 1048576 < m) (ls : List Lf) (hw : WA ap11 ls) : g14K (g14 m) ls (fun v _ _ => saysTrue v) = some () := by
  obtain ⟨⟨⟨a1, a2, a3, a4, a5, a6⟩, ⟨b1, b2, b3, b4, b5, b6⟩, _⟩, _⟩ := hw
  rw [maxLen_eq] at a4 b4
  unfold g14K
  have e0 : (lf ls 0).nat = 0 := a1
  have e3 : (lf ls 3).nat = 0 := b1
  have e1 : (lf ls 1).nat = ((lf ls 7).lst (.int .i8)).length := a5.symm
  have e4 : (lf ls 4).nat = ((lf ls 9).lst (.int .i8)).length := b5.symm
  have e6 : (lf ls 6).nat = (lf ls 1).nat := a2
  have e8 : (lf ls 8).nat = (lf ls 4).nat := b2
  have x1 : (lf ls 1).nat ≤ 9223372036854775807 := Nat.le_trans a3 a4
  have x2 : (lf ls 4).nat ≤ 9223372036854775807 := Nat.le_trans b3 b4
  rw [e1] at x1
  rw [e4] at x2
  rw [e6, e8, e0, e3, e1, e4]
  exact law14 m _ _ x1 x2 hm _
theorem law14' (ls : List Lf) (hw : WA ap11 ls) : g14K (g14 1048577) ls (fun v _ _ => saysTrue v) = some () := law14m 1048577 (by omega) ls hw
/-! ### HalfStream -/
theorem g84L {α : Type} (m cap : Nat) {u : List Int} (hlen : u.length ≤ 1048576) (k : List Int → Option α) : g84 m 0 u.length cap u.length u k = k u := by
  rw [g84_o, if_pos (by omega)]
  dsimp only
  rw [List.drop_zero, List.take_of_length_le (Nat.le_refl _), if_pos (by omega)]
theorem half_res (m a b : Nat) {u v : List Int} (hu : u.length ≤ 1048576) (hv : v.length ≤ 1048576) (hm : 1048576 < m) :
    (∃ x, (∀ {α : Type} (k1 : Int → Option α) (k : List Int → List Int → Option α), g50 m 0 u.length a 0 v.length b u.length u v.length v k1 k = k1 x) ∧
      (∀ {α : Type} (k1 : Int → Option α) (k : List Int → List Int → Option α), g51 m 0 u.length a 0 v.length b u.length u v.length v k1 k = k1 x)) ∨
    (u.length ≤ 1000 ∧ v.length ≤ 1000 ∧ (∀ {α : Type} (k1 : Int → Option α) (k : List Int → List Int → Option α), g50 m 0 u.length a 0 v.length b u.length u v.length v k1 k = k (0 :: u) v) ∧
      (∀ {α : Type} (k1 : Int → Option α) (k : List Int → List Int → Option α), g51 m 0 u.length a 0 v.length b u.length u v.length v k1 k = k (0 :: u) v)) := by
  cases hok : okS u v
  · exact .inl ⟨1, fun k1 k => by rw [g50_o, g76L m _ _ hu hv hm, hok]; rfl, fun k1 k => by rw [g51_o, g41L m _ _ hu hv hm, hok]; rfl⟩
  · by_cases hl : u.length = 16
    · have e : (((u.length : Nat) : Int) == (16 : Int)) = true := beq_iff_eq.2 (by omega)
      exact .inl ⟨3, fun k1 k => by rw [g50_o, g76L m _ _ hu hv hm, hok, Bool.not_true, cond_false, e, cond_true], fun k1 k => by rw [g51_o, g41L m _ _ hu hv hm, hok, Bool.not_true, cond_false, e, cond_true]⟩
    · have e : (((u.length : Nat) : Int) == (16 : Int)) = false := beq_eq_false_iff_ne.2 (by omega)
      obtain ⟨c1, c2, c3, _⟩ := okS_pos hok
      refine .inr ⟨by omega, by omega, fun k1 k => ?_, fun k1 k => ?_⟩
      · rw [g50_o, g76L m _ _ hu hv hm, hok, Bool.not_true, cond_false, e, cond_false, if_pos (by omega)]
        dsimp only
        rw [List.drop_zero, List.drop_zero, List.take_of_length_le (Nat.le_refl _), List.take_of_length_le (Nat.le_refl _), if_pos (by omega), if_pos (by omega), if_pos (by omega)]; rfl
      · rw [g51_o, g41L m _ _ hu hv hm, hok, Bool.not_true, cond_false, e, cond_false, if_pos (by omega)]
        dsimp only
        rw [List.drop_zero, List.take_of_length_le (Nat.le_refl _), if_pos (by omega), g84L m _ hv]; rfl
theorem law15 {α : Type} (m a3 b3 : Nat) {u1 u2 : List Int} (h1 : u1.length ≤ 9223372036854775807) (h2 : u2.length ≤ 9223372036854775807) (hm : 1048576 < m) (k : Bool → Option α) : g15 m 0 u1.length a3 0 u2.length b3 u1.length u1 u2.length u2 k = k true := by
  rw [g15_o, show (1048576 : Int) = ((1048576 : Nat) : Int) from rfl, g35L m 0 a3 0 b3 (Nat.le_refl _) h1 h2]
  by_cases hul : u1.length + u2.length ≤ 1048576
  · have q1 : u1.length ≤ 1048576 := by omega
    have q2 : u2.length ≤ 1048576 := by omega
    have m0 : 0 < m := by omega
    rw [if_pos hul, dF (by omega), cond_false, g37L m _ _ q1 q2 hm]
    rcases half_res m u1.length u2.length q1 q2 hm with ⟨x, e1, e2⟩ | ⟨l1, l2, e1, e2⟩
    · rw [e1, g37L m _ _ q1 q2 hm, e2, g39v1L m m0, bne_self_eq_false, cond_false, g37L m _ _ q1 q2 hm, g39T m _ _ _ _ q1 q2 hm, Bool.not_true, cond_false, g48L m _ _ _ _ rfl rfl q1 q2 hm, dF (by omega), cond_false,
        g39v1L m m0, cond_false, g48v1L m m0, g49L m m0, dF (by omega), cond_false, bne_self_eq_false, cond_false, g37L m _ _ q1 q2 hm, e2, g39v1L m m0, bne_self_eq_false, cond_false, g49L m m0, dF (by omega), cond_false, bne_self_eq_false, cond_false]
    · have l3 : (0 :: u1).length ≤ 1048576 := by simp only [List.length_cons]; omega
      rw [e1, g37L m _ _ q1 q2 hm, e2, g39v6L m l3 q2 hm, dT rfl, dT rfl, Bool.and_self, Bool.not_true, cond_false, g37L m _ _ q1 q2 hm, g39T m _ _ _ _ q1 q2 hm, Bool.not_true, cond_false, g48L m _ _ _ _ rfl rfl q1 q2 hm, dF (by omega), cond_false,
        g39v6L m l3 q2 hm, dT rfl, dT rfl, Bool.and_self, Bool.not_true, cond_false, g48v2L m l3 q2 hm, g49v2L m _ _ l3 q2 hm, dF (by omega), cond_false, bne_self_eq_false, cond_false, g37L m _ _ q1 q2 hm, e2,
        g39v6L m l3 q2 hm, dT rfl, dT rfl, Bool.and_self, Bool.not_true, cond_false, g49v2L m _ _ l3 q2 hm, dF (by omega), cond_false, bne_self_eq_false, cond_false]
  · rw [if_neg hul, dT (by omega), cond_true]
theorem law15m (m : Nat) (hm : 1048576 < m) (ls : List Lf) (hw : WA ap11 ls) : g15K (g15 m) ls (fun v _ _ => saysTrue v) = some () := by
  obtain ⟨⟨⟨a1, a2, a3, a4, a5, a6⟩, ⟨b1, b2, b3, b4, b5, b6⟩, _⟩, _⟩ := hw
  rw [maxLen_eq] at a4 b4
  unfold g15K
  have e0 : (lf ls 0).nat = 0 := a1
  have e3 : (lf ls 3).nat = 0 := b1
  have e1 : (lf ls 1).nat = ((lf ls 7).lst (.int .i8)).length := a5.symm
  have e4 : (lf ls 4).nat = ((lf ls 9).lst (.int .i8)).length := b5.symm
  have e6 : (lf ls 6).nat = (lf ls 1).nat := a2
  have e8 : (lf ls 8).nat = (lf ls 4).nat := b2
  have x1 : (lf ls 1).nat ≤ 9223372036854775807 := Nat.le_trans a3 a4
  have x2 : (lf ls 4).nat ≤ 9223372036854775807 := Nat.le_trans b3 b4
  rw [e1] at x1
  rw [e4] at x2
  rw [e6, e8, e0, e3, e1, e4]
  exact law15 m _ _ x1 x2 hm _
theorem law15' (ls : List Lf) (hw : WA ap11 ls) : g15K (g15 1048577) ls (fun v _ _ => saysTrue v) = some () := law15m 1048577 (by omega) ls hw
end Go.Proofs.Ytbpljilgekneoaa.Sx
