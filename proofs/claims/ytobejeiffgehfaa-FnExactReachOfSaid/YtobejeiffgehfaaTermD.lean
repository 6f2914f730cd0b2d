/- Plain laws: rows of nodes that are marked and compared. Our own work. -/
import Derived.Test.YtobejeiffgehfaaSxU
import Derived.Test.YtobejeiffgehfaaTermC
namespace Go.Proofs.Ytobejeiffgehfaa.Sx
open Go
set_option linter.unusedVariables false
set_option linter.unusedSimpArgs false
set_option maxRecDepth 100000
/-- A loop that counts up: what it comes to from each number. -/
theorem loopR {β : Type} (F : Nat → Nat → β) (R : Nat → β) (n : Nat) (he : ∀ m, F (m + 1) n = R n) (hs : ∀ m i, i < n → F m (i + 1) = R (i + 1) → F (m + 1) i = R i) : ∀ (d i m : Nat), i + d = n → d < m → F m i = R i
  | 0, i, m, hi, hm => by
    obtain ⟨m, rfl⟩ : ∃ n, m = n + 1 := ⟨m - 1, by omega⟩
    obtain rfl : i = n := by omega
    exact he m
  | d + 1, i, m, hi, hm => by
    obtain ⟨m, rfl⟩ : ∃ n, m = n + 1 := ⟨m - 1, by omega⟩
    exact hs m i (by omega) (loopR F R n he hs d (i + 1) m (by omega) (by omega))
theorem take_snoc {T : Type} (l : List T) {i : Nat} (h : i < l.length) : l.take i ++ [l[i]] = l.take (i + 1) := by rw [List.take_succ_eq_append_getElem h]
theorem set_over {T : Type} (l u : List T) {i : Nat} (h : i < l.length) (hl : l.length = u.length) : (l.take i ++ u.drop i).set i l[i] = l.take (i + 1) ++ u.drop (i + 1) := by
  have h1 : (l.take i).length = i := by rw [List.length_take]; omega
  rw [List.set_append_right _ _ (by omega), h1, Nat.sub_self, List.drop_eq_getElem_cons (by omega), List.set_cons_zero, List.take_succ_eq_append_getElem h, List.append_assoc]; rfl
theorem cast_lt {i n : Nat} (h : i < n) : (0 : Int) ≤ (i : Int) ∧ (i : Int) < (n : Nat) := ⟨by omega, by omega⟩
theorem getD_set_at {T : Type} (l : List T) (d x : T) {i : Nat} (h : i < l.length) : List.getD (l.set i x) i d = x := by simp [List.getD, h]
theorem bne_self' (a : Int) : (a != a) = false := bne_self_eq_false a
/-! ### Equal rows -/
theorem g41T {α : Type} (q : Nat) (x : List Int) (k : Bool → Option α) : g41 q (x.headD 0) (x.tail.headD 0) (x.tail.tail.headD 0) (x.tail.tail.tail.headD 0) (x.tail.tail.tail.tail.headD 0)
    (x.headD 0) (x.tail.headD 0) (x.tail.tail.headD 0) (x.tail.tail.tail.headD 0) (x.tail.tail.tail.tail.headD 0) k = k true := by
  rw [g41_o]; simp only [bne_self_eq_false, cond_false]
theorem g15v1T {α : Type} (m a b n : Nat) (u : List (List Int)) (hn : n ≤ 1048576) (hm : 1048576 < m) (k : Bool → Option α) : g15v1 m 0 n a 0 n b n u n u k = k true := by
  rw [g15v1_o, bne_self_eq_false, cond_false]
  have := loopR (fun m' i => g15v1l0 (g41 m) 0 n a 0 n b n u n u (k false) (k true) m' (i : Int)) (fun _ => k true) n (fun m' => ?_) (fun m' i hi h => ?_) n 0 m (by omega) (by omega)
  · simpa using this
  · rw [g15v1l0_s, dF (by omega), cond_false]
  · rw [g15v1l0_s, dT (by omega), cond_true, if_pos (cast_lt hi), Int.toNat_natCast, Nat.zero_add, if_pos hi, if_pos (cast_lt hi), if_pos hi, g41T, Bool.not_true, cond_false, wrapS (by omega), h]
theorem g15v2T {α : Type} (m : Nat) (u : List (List Int)) (hn : u.length ≤ 1048576) (hm : 1048576 < m) (k : Bool → Option α) : g15v2 m u u k = k true := by
  rw [g15v2_o, bne_self_eq_false, cond_false]
  have := loopR (fun m' i => g15v2l0 (g41 m) u u (k false) (k true) m' (i : Int)) (fun _ => k true) u.length (fun m' => ?_) (fun m' i hi h => ?_) u.length 0 m (by omega) (by omega)
  · simpa using this
  · rw [g15v2l0_s, dF (by omega), cond_false]
  · rw [g15v2l0_s, dT (by omega), cond_true, if_pos (cast_lt hi), Int.toNat_natCast, if_pos hi, if_pos (cast_lt hi), if_pos hi, g41T, Bool.not_true, cond_false, wrapS (by omega), h]
theorem g15L0 {α : Type} (m : Nat) (hm : 0 < m) (k : Bool → Option α) : g15 m [] k = k true := by
  obtain ⟨m, rfl⟩ : ∃ n, m = n + 1 := ⟨m - 1, by omega⟩
  rw [g15_o, g15l0_s]; rfl
/-! ### Marks -/
def markN (p : Int) (i : Nat) : List Int := [IntKind.wrap .i8 (p + 5 * (i : Int)), IntKind.wrap .i16 (p + 5 * (i : Int) + 1), IntKind.wrap .i16 (p + 5 * (i : Int) + 1 + 1), p + 5 * (i : Int) + 1 + 1 + 1, p + 5 * (i : Int) + 1 + 1 + 1 + 1]
def marksN (p : Int) (n : Nat) : List (List Int) := (List.range n).map (markN p)
theorem marksN_length (p : Int) (n : Nat) : (marksN p n).length = n := by simp [marksN]
theorem marksN_at (p : Int) {n i : Nat} (h : i < n) : (marksN p n)[i]'(by rw [marksN_length]; exact h) = markN p i := by simp [marksN]
theorem g29L {α : Type} (m cap n : Nat) {u : List (List Int)} (hn : u.length = n) (hlen : n ≤ 1048576) (hm : 1048576 < m) {p : Int} (h0 : 0 ≤ p) (h1 : p ≤ 1099511627776) (k : Int → List (List Int) → Option α) :
    g29 m 0 n cap p n u k = k (p + 5 * n) (marksN p n) := by
  rw [g29_o]
  have := loopR (fun m i => g29l0 0 n cap n (fun x l => k x l) m (p + 5 * (i : Int)) (i : Int) ((marksN p n).take i ++ u.drop i)) (fun i => k (p + 5 * n) (marksN p n)) n (fun m => ?_) (fun m i hi h => ?_) n 0 m (by omega) (by omega)
  · simpa using this
  · rw [g29l0_s, dF (by omega), cond_false, List.drop_eq_nil_of_le (by omega), List.append_nil, List.take_of_length_le (by rw [marksN_length]; omega)]
  · rw [g29l0_s, dT (by omega), cond_true]
    have hl : ((marksN p n).take i ++ u.drop i).length = n := by rw [List.length_append, List.length_take, List.length_drop, marksN_length]; omega
    have hgs : ∀ x, List.getD (((marksN p n).take i ++ u.drop i).set i x) i [] = x := fun x => getD_set_at _ _ _ (by omega)
    dsimp only
    simp only [Int.toNat_natCast, Nat.zero_add, if_pos (cast_lt hi), if_pos hi, hgs, List.set_set, List.headD_cons, List.tail_cons]
    rw [wrapI (x := p + 5 * (i : Int) + 1) (by omega) (by omega), wrapI (x := p + 5 * (i : Int) + 1 + 1) (by omega) (by omega), wrapI (x := p + 5 * (i : Int) + 1 + 1 + 1) (by omega) (by omega),
      wrapI (x := p + 5 * (i : Int) + 1 + 1 + 1 + 1) (by omega) (by omega), wrapI (x := p + 5 * (i : Int) + 1 + 1 + 1 + 1 + 1) (by omega) (by omega), wrapS (by omega)]
    have e := marksN_at p hi
    unfold markN at e
    rw [← e, set_over _ _ (by rw [marksN_length]; exact hi) (by rw [marksN_length, hn]), ← h]
    congr 1
    omega
theorem g29v2L {α : Type} (m : Nat) {u : List (List Int)} (hlen : u.length ≤ 1048576) (hm : 1048576 < m) {p : Int} (h0 : 0 ≤ p) (h1 : p ≤ 1099511627776) (k : Int → List (List Int) → Option α) :
    g29v2 m p u k = k (p + 5 * u.length) (marksN p u.length) := by
  rw [g29v2_o]
  have := loopR (fun m i => g29v2l0 (fun x l => k x l) m (p + 5 * (i : Int)) (i : Int) ((marksN p u.length).take i ++ u.drop i)) (fun i => k (p + 5 * u.length) (marksN p u.length)) u.length (fun m => ?_) (fun m i hi h => ?_) u.length 0 m (by omega) (by omega)
  · simpa using this
  · have hl : ((marksN p u.length).take u.length ++ u.drop u.length).length = u.length := by rw [List.length_append, List.length_take, List.length_drop, marksN_length]; omega
    rw [g29v2l0_s, hl, dF (by omega), cond_false, List.drop_eq_nil_of_le (by omega), List.append_nil, List.take_of_length_le (by rw [marksN_length]; omega)]
  · have hl : ((marksN p u.length).take i ++ u.drop i).length = u.length := by rw [List.length_append, List.length_take, List.length_drop, marksN_length]; omega
    have hgs : ∀ x, List.getD (((marksN p u.length).take i ++ u.drop i).set i x) i [] = x := fun x => getD_set_at _ _ _ (by omega)
    rw [g29v2l0_s, hl, dT (by omega), cond_true]
    dsimp only
    simp only [Int.toNat_natCast, List.length_set, hl, if_pos (cast_lt hi), if_pos hi, hgs, List.set_set, List.headD_cons, List.tail_cons]
    rw [wrapI (x := p + 5 * (i : Int) + 1) (by omega) (by omega), wrapI (x := p + 5 * (i : Int) + 1 + 1) (by omega) (by omega), wrapI (x := p + 5 * (i : Int) + 1 + 1 + 1) (by omega) (by omega),
      wrapI (x := p + 5 * (i : Int) + 1 + 1 + 1 + 1) (by omega) (by omega), wrapI (x := p + 5 * (i : Int) + 1 + 1 + 1 + 1 + 1) (by omega) (by omega), wrapS (by omega)]
    have e := marksN_at p hi
    unfold markN at e
    rw [← e, set_over _ _ (by rw [marksN_length]; exact hi) (by rw [marksN_length]), ← h]
    congr 1
    omega
theorem g34v1L {α : Type} (m n : Nat) (hlen : n ≤ 1048576) (hm : 1048576 < m) {p : Int} (h0 : 0 ≤ p) (h1 : p ≤ 1099511627776) (k : Int → Option α) :
    g34v1 m p (marksN p n) k = k (p + 5 * n) := by
  rw [g34v1_o]
  have := loopR (fun m i => g34v1l0 (marksN p n) (k (-1)) (fun x => k x) m (p + 5 * (i : Int)) (i : Int)) (fun i => k (p + 5 * n)) n (fun m => ?_) (fun m i hi h => ?_) n 0 m (by omega) (by omega)
  · simpa using this
  · rw [g34v1l0_s, marksN_length, dF (by omega), cond_false]
  · have e : List.getD (marksN p n) i [] = markN p i := by rw [getD_at _ _ (by rw [marksN_length]; exact hi), marksN_at p hi]
    rw [g34v1l0_s, marksN_length, dT (by omega), cond_true]
    dsimp only
    simp only [Int.toNat_natCast, if_pos (cast_lt hi), if_pos hi, e, markN, List.headD_cons, List.tail_cons]
    rw [wrapI (x := p + 5 * (i : Int) + 1) (by omega) (by omega), wrapI (x := p + 5 * (i : Int) + 1 + 1) (by omega) (by omega), wrapI (x := p + 5 * (i : Int) + 1 + 1 + 1) (by omega) (by omega),
      wrapI (x := p + 5 * (i : Int) + 1 + 1 + 1 + 1) (by omega) (by omega), wrapI (x := p + 5 * (i : Int) + 1 + 1 + 1 + 1 + 1) (by omega) (by omega), wrapS (by omega)]
    simp only [bne_self', cond_false]
    rw [← h]
    congr 1
    omega
theorem g29v1L {α : Type} (m : Nat) (hm : 0 < m) (p : Int) (k : Option α) : g29v1 m p k = k := by
  obtain ⟨m, rfl⟩ : ∃ n, m = n + 1 := ⟨m - 1, by omega⟩
  rw [g29v1_o, g29v1l0_s]; rfl
theorem g34L {α : Type} (m : Nat) (hm : 0 < m) (p : Int) (k : Option α) : g34 m p k = k := by
  obtain ⟨m, rfl⟩ : ∃ n, m = n + 1 := ⟨m - 1, by omega⟩
  rw [g34_o, g34l0_s]; rfl
end Go.Proofs.Ytobejeiffgehfaa.Sx
