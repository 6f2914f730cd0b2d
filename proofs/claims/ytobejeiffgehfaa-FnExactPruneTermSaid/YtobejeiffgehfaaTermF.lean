/- Plain laws: rows of integers that are marked and compared; ShareTerm. Our own work. -/
import Derived.Test.YtobejeiffgehfaaTermE
namespace Go.Proofs.Ytobejeiffgehfaa.Sx
open Go
set_option linter.unusedVariables false
set_option linter.unusedSimpArgs false
set_option maxRecDepth 100000
theorem g28L0 {α : Type} (m : Nat) (hm : 0 < m) (k : Bool → Option α) : g28 m [] k = k true := by
  obtain ⟨m, rfl⟩ : ∃ n, m = n + 1 := ⟨m - 1, by omega⟩
  rw [g28_o, g28l0_s]; rfl
theorem g28v3T {α : Type} (m a b n : Nat) (u : List Int) (hn : n ≤ 1048576) (hm : 1048576 < m) (k : Bool → Option α) : g28v3 m 0 n a 0 n b n u n u k = k true := by
  rw [g28v3_o, bne_self_eq_false, cond_false]
  have := loopR (fun m' i => g28v3l0 0 n a 0 n b n u n u (k false) (k true) m' (i : Int)) (fun _ => k true) n (fun m' => ?_) (fun m' i hi h => ?_) n 0 m (by omega) (by omega)
  · simpa using this
  · rw [g28v3l0_s, dF (by omega), cond_false]
  · rw [g28v3l0_s, dT (by omega), cond_true, if_pos (cast_lt hi), Int.toNat_natCast, Nat.zero_add, if_pos hi, if_pos (cast_lt hi), if_pos hi, bne_self_eq_false, cond_false, wrapS (by omega), h]
theorem g28v4T {α : Type} (m : Nat) (u : List Int) (hn : u.length ≤ 1048576) (hm : 1048576 < m) (k : Bool → Option α) : g28v4 m u u k = k true := by
  rw [g28v4_o, bne_self_eq_false, cond_false]
  have := loopR (fun m' i => g28v4l0 u u (k false) (k true) m' (i : Int)) (fun _ => k true) u.length (fun m' => ?_) (fun m' i hi h => ?_) u.length 0 m (by omega) (by omega)
  · simpa using this
  · rw [g28v4l0_s, dF (by omega), cond_false]
  · rw [g28v4l0_s, dT (by omega), cond_true, if_pos (cast_lt hi), Int.toNat_natCast, if_pos hi, if_pos (cast_lt hi), if_pos hi, bne_self_eq_false, cond_false, wrapS (by omega), h]
theorem g30L {α : Type} (m : Nat) (hm : 0 < m) (p : Int) (k : Option α) : g30 m p k = k := by
  obtain ⟨m, rfl⟩ : ∃ n, m = n + 1 := ⟨m - 1, by omega⟩
  rw [g30_o, g30l0_s]; rfl
theorem g31L {α : Type} (m : Nat) (hm : 0 < m) (p : Int) (k : Option α) : g31 m p k = k := by
  obtain ⟨m, rfl⟩ : ∃ n, m = n + 1 := ⟨m - 1, by omega⟩
  rw [g31_o, g31l0_s]; rfl
def marksI (p : Int) (n : Nat) : List Int := (List.range n).map fun (i : Nat) => p + (i : Int)
theorem marksI_length (p : Int) (n : Nat) : (marksI p n).length = n := by simp [marksI]
theorem marksI_at (p : Int) {n i : Nat} (h : i < n) : (marksI p n)[i]'(by rw [marksI_length]; exact h) = p + (i : Int) := by simp [marksI]
theorem g30v1L {α : Type} (m cap n : Nat) {u : List Int} (hn : u.length = n) (hlen : n ≤ 1048576) (hm : 1048576 < m) {p : Int} (h0 : 0 ≤ p) (h1 : p ≤ 1099511627776) (k : Int → List Int → Option α) :
    g30v1 m 0 n cap p n u k = k (p + n) (marksI p n) := by
  rw [g30v1_o]
  have := loopR (fun m i => g30v1l0 0 n cap n (fun x l => k x l) m (p + (i : Int)) (i : Int) ((marksI p n).take i ++ u.drop i)) (fun i => k (p + n) (marksI p n)) n (fun m => ?_) (fun m i hi h => ?_) n 0 m (by omega) (by omega)
  · simpa using this
  · rw [g30v1l0_s, dF (by omega), cond_false, List.drop_eq_nil_of_le (by omega), List.append_nil, List.take_of_length_le (by rw [marksI_length]; omega)]
  · rw [g30v1l0_s, dT (by omega), cond_true, if_pos (cast_lt hi), Int.toNat_natCast, Nat.zero_add, if_pos hi, wrapS (by omega), wrapI (x := p + (i : Int) + 1) (by omega) (by omega)]
    rw [show (List.set ((marksI p n).take i ++ u.drop i) i (p + (i : Int))) = (marksI p n).take (i + 1) ++ u.drop (i + 1) by
      rw [← marksI_at p hi]; exact set_over _ _ (by rw [marksI_length]; exact hi) (by rw [marksI_length, hn])]
    rw [← h]; congr 1
    omega
theorem g31v1L {α : Type} (m cap n : Nat) (hlen : n ≤ 1048576) (hm : 1048576 < m) {p : Int} (h0 : 0 ≤ p) (h1 : p ≤ 1099511627776) (k : Int → Option α) :
    g31v1 m 0 n cap p n (marksI p n) k = k (p + n) := by
  rw [g31v1_o]
  have := loopR (fun m i => g31v1l0 0 n cap n (marksI p n) (k (-1)) (fun x => k x) m (p + (i : Int)) (i : Int)) (fun i => k (p + n)) n (fun m => ?_) (fun m i hi h => ?_) n 0 m (by omega) (by omega)
  · simpa using this
  · rw [g31v1l0_s, dF (by omega), cond_false]
  · rw [g31v1l0_s, dT (by omega), cond_true, if_pos (cast_lt hi), Int.toNat_natCast, Nat.zero_add, if_pos hi, getD_at _ 0 (by rw [marksI_length]; exact hi), marksI_at p hi, bne_self_eq_false, cond_false, wrapS (by omega),
      wrapI (x := p + (i : Int) + 1) (by omega) (by omega), ← h]
    congr 1
    omega
theorem g30v2L {α : Type} (m : Nat) {u : List Int} (hlen : u.length ≤ 1048576) (hm : 1048576 < m) {p : Int} (h0 : 0 ≤ p) (h1 : p ≤ 1099511627776) (k : Int → List Int → Option α) :
    g30v2 m p u k = k (p + u.length) (marksI p u.length) := by
  rw [g30v2_o]
  have := loopR (fun m i => g30v2l0 (fun x l => k x l) m (p + (i : Int)) (i : Int) ((marksI p u.length).take i ++ u.drop i)) (fun i => k (p + u.length) (marksI p u.length)) u.length (fun m => ?_) (fun m i hi h => ?_) u.length 0 m (by omega) (by omega)
  · simpa using this
  · have hl : ((marksI p u.length).take u.length ++ u.drop u.length).length = u.length := by rw [List.length_append, List.length_take, List.length_drop, marksI_length]; omega
    rw [g30v2l0_s, hl, dF (by omega), cond_false, List.drop_eq_nil_of_le (by omega), List.append_nil, List.take_of_length_le (by rw [marksI_length]; omega)]
  · have hl : ((marksI p u.length).take i ++ u.drop i).length = u.length := by rw [List.length_append, List.length_take, List.length_drop, marksI_length]; omega
    rw [g30v2l0_s, hl, dT (by omega), cond_true, if_pos (cast_lt hi), Int.toNat_natCast, if_pos hi, wrapS (by omega), wrapI (x := p + (i : Int) + 1) (by omega) (by omega)]
    rw [show (List.set ((marksI p u.length).take i ++ u.drop i) i (p + (i : Int))) = (marksI p u.length).take (i + 1) ++ u.drop (i + 1) by
      rw [← marksI_at p hi]; exact set_over _ _ (by rw [marksI_length]; exact hi) (by rw [marksI_length])]
    rw [← h]; congr 1
    omega
theorem g31v2L {α : Type} (m n : Nat) (hlen : n ≤ 1048576) (hm : 1048576 < m) {p : Int} (h0 : 0 ≤ p) (h1 : p ≤ 1099511627776) (k : Int → Option α) :
    g31v2 m p (marksI p n) k = k (p + n) := by
  rw [g31v2_o]
  have := loopR (fun m i => g31v2l0 (marksI p n) (k (-1)) (fun x => k x) m (p + (i : Int)) (i : Int)) (fun i => k (p + n)) n (fun m => ?_) (fun m i hi h => ?_) n 0 m (by omega) (by omega)
  · simpa using this
  · rw [g31v2l0_s, marksI_length, dF (by omega), cond_false]
  · rw [g31v2l0_s, marksI_length, dT (by omega), cond_true, if_pos (cast_lt hi), Int.toNat_natCast, if_pos hi, getD_at _ 0 (by rw [marksI_length]; exact hi), marksI_at p hi, bne_self_eq_false, cond_false, wrapS (by omega),
      wrapI (x := p + (i : Int) + 1) (by omega) (by omega), ← h]
    congr 1
    omega
/-! ### The first place of a node -/
def sameN (y : List Int) (v0 v1 v2 v3 v4 : Int) : Bool := ((y.headD 0) == v0) && (((y.tail.headD 0) == v1) && (((y.tail.tail.headD 0) == v2) && (((y.tail.tail.tail.headD 0) == v3) && ((y.tail.tail.tail.tail.headD 0) == v4))))
def posA (P : Nat → Bool) : Nat → Nat → Nat
  | 0, i => i
  | d + 1, i => cond (P i) i (posA P d (i + 1))
theorem posA_le (P : Nat → Bool) : ∀ d i, i ≤ posA P d i ∧ posA P d i ≤ i + d
  | 0, i => ⟨Nat.le_refl _, Nat.le_refl _⟩
  | d + 1, i => by
    have h := posA_le P d (i + 1)
    simp only [posA]
    cases P i <;> simp only [cond_true, cond_false] <;> omega
def posN (l : List (List Int)) (v0 v1 v2 v3 v4 : Int) : Nat := posA (fun i => sameN (List.getD l i []) v0 v1 v2 v3 v4) l.length 0
theorem posN_le (l : List (List Int)) (v0 v1 v2 v3 v4 : Int) : posN l v0 v1 v2 v3 v4 ≤ l.length := by
  have := (posA_le (fun i => sameN (List.getD l i []) v0 v1 v2 v3 v4) l.length 0).2
  unfold posN; omega
theorem posA_step (P : Nat → Bool) {n i : Nat} (h : i < n) : posA P (n - i) i = cond (P i) i (posA P (n - (i + 1)) (i + 1)) := by
  have : n - i = (n - (i + 1)) + 1 := by omega
  rw [this]; rfl
theorem g35l2L {α : Type} (m x1 x2 x3 x4 x5 x6 : Nat) (v : Int) (n : Nat) (u : List (List Int)) (l : List (List Int)) (n2 : Nat) (idx : List Int) (v0 v1 v2 v3 v4 : Int) (hl : l.length ≤ 1000000) (hm : 1048576 < m) (k : Int → Option α) :
    g35l2 x1 x2 x3 x4 x5 x6 v n u l n2 idx v0 v1 v2 v3 v4 k m (0 : Int) = k (posN l v0 v1 v2 v3 v4 : Nat) := by
  have := loopR (fun m' i => g35l2 x1 x2 x3 x4 x5 x6 v n u l n2 idx v0 v1 v2 v3 v4 k m' (i : Int)) (fun i => k (posA (fun i => sameN (List.getD l i []) v0 v1 v2 v3 v4) (l.length - i) i : Nat)) l.length (fun m' => ?_) (fun m' i hi h => ?_) l.length 0 m (by omega) (by omega)
  · exact this
  · rw [g35l2_s, dF (by omega), cond_false, Nat.sub_self]; rfl
  · rw [g35l2_s, dT (by omega), cond_true, if_pos (cast_lt hi), Int.toNat_natCast, if_pos hi, posA_step _ hi]
    show cond (!(sameN (List.getD l i []) v0 v1 v2 v3 v4)) _ _ = _
    cases sameN (List.getD l i []) v0 v1 v2 v3 v4
    · rw [Bool.not_false, cond_true, wrapS (by omega), h]; rfl
    · rfl
theorem sameN_comm (y : List Int) (v0 v1 v2 v3 v4 : Int) : ((v0 == (y.headD 0)) && ((v1 == (y.tail.headD 0)) && ((v2 == (y.tail.tail.headD 0)) && ((v3 == (y.tail.tail.tail.headD 0)) && (v4 == (y.tail.tail.tail.tail.headD 0)))))) = sameN y v0 v1 v2 v3 v4 := by
  unfold sameN
  rw [Bool.beq_comm (a := v0), Bool.beq_comm (a := v1), Bool.beq_comm (a := v2), Bool.beq_comm (a := v3), Bool.beq_comm (a := v4)]
theorem g100L {α : Type} (m : Nat) (l : List (List Int)) (v0 v1 v2 v3 v4 : Int) (hl : l.length ≤ 1000000) (hm : 1048576 < m) (k : Int → Option α) :
    g100 m v0 v1 v2 v3 v4 l k = k (if posN l v0 v1 v2 v3 v4 < l.length then (posN l v0 v1 v2 v3 v4 : Nat) else -1) := by
  rw [g100_o]
  have := loopR (fun m' i => g100l0 ((l.length : Nat) : Int) l v0 v1 v2 v3 v4 (fun x => k x) (k (-1)) m' (i : Int))
    (fun i => k (if posA (fun i => sameN (List.getD l i []) v0 v1 v2 v3 v4) (l.length - i) i < l.length then (posA (fun i => sameN (List.getD l i []) v0 v1 v2 v3 v4) (l.length - i) i : Nat) else -1)) l.length (fun m' => ?_) (fun m' i hi h => ?_) l.length 0 m (by omega) (by omega)
  · exact this
  · rw [g100l0_s, dF (by omega), cond_false, Nat.sub_self, if_neg (by simp [posA])]
  · rw [g100l0_s, dT (by omega), cond_true, if_pos (cast_lt hi), Int.toNat_natCast, if_pos hi, posA_step _ hi, sameN_comm]
    cases sameN (List.getD l i []) v0 v1 v2 v3 v4
    · rw [cond_false, cond_false, wrapS (by omega), h]
    · rw [cond_true, cond_true, if_pos hi]
/-! ### One node after the other -/
def shN (u : List (List Int)) (idx : List Int) (i : Nat) : List Int := mvN (fI idx) (List.getD u i [])
def shP (u : List (List Int)) (s : List (List Int) × List Int) (i : Nat) : Nat :=
  posN s.1 ((List.getD u i []).headD 0) (mvA (fI s.2) ((List.getD u i []).headD 0) ((List.getD u i []).tail.headD 0)) (mvB (fI s.2) ((List.getD u i []).headD 0) ((List.getD u i []).tail.tail.headD 0)) ((List.getD u i []).tail.tail.tail.headD 0) ((List.getD u i []).tail.tail.tail.tail.headD 0)
def shStep (u : List (List Int)) (s : List (List Int) × List Int) (i : Nat) : List (List Int) × List Int :=
  (if shP u s i < s.1.length then s.1 else s.1 ++ [shN u s.2 i], s.2.set i ((shP u s i : Nat) : Int))
def shSt (u : List (List Int)) : Nat → List (List Int) × List Int
  | 0 => ([], List.replicate u.length 0)
  | i + 1 => shStep u (shSt u i) i
theorem shSt_len (u : List (List Int)) : ∀ i, (shSt u i).1.length ≤ i ∧ (shSt u i).2.length = u.length
  | 0 => ⟨Nat.le_refl _, by simp [shSt]⟩
  | i + 1 => by
    obtain ⟨h1, h2⟩ := shSt_len u i
    refine ⟨?_, by simp [shSt, shStep, h2]⟩
    simp only [shSt, shStep]
    split
    · omega
    · rw [List.length_append, List.length_singleton]; omega
theorem shP_le (u : List (List Int)) (s : List (List Int) × List Int) (i : Nat) : shP u s i ≤ s.1.length := posN_le _ _ _ _ _ _
theorem g75v1L {α : Type} (m cap n : Nat) {kd a b p q : Int} {idx : List Int} (hn : idx.length = n) (hA : UseA kd a n) (hB : UseB kd b n) (k : Int → Int → Option α) : g75v1 m kd a b p q 0 n cap n idx k = k (mvA (fI idx) kd a) (mvB (fI idx) kd b) := by
  rw [g75v1_o]
  simp only [g95L, g96L, Nat.zero_add]
  unfold UseA at hA
  unfold UseB at hB
  unfold mvA mvB fI
  cases h1 : one1 kd <;> cases h2 : two kd
  · rfl
  · rw [h2] at hA hB
    simp only [Bool.true_or, true_implies] at hA hB
    simp only [cond_true, cond_false, Bool.true_or]
    rw [if_pos hA, if_pos (by omega), if_pos hB, if_pos (by omega)]
  · rw [h1, h2] at hA
    simp only [Bool.or_true, true_implies] at hA
    simp only [cond_true, cond_false, Bool.or_true]
    rw [if_pos hA, if_pos (by omega)]
  · rw [h2] at hA hB
    simp only [Bool.true_or, true_implies] at hA hB
    simp only [cond_true, cond_false, Bool.true_or]
    rw [if_pos hA, if_pos (by omega), if_pos hB, if_pos (by omega)]
theorem g77v1L {α : Type} (m cap n : Nat) {kd a b p q : Int} {idx : List Int} (hn : idx.length = n) (hA : UseA kd a n) (hB : UseB kd b n) (k : Int → Int → Option α) : g77v1 m kd a b p q 0 n cap n idx k = k (mvA (fI idx) kd a) (mvB (fI idx) kd b) := by
  rw [g77v1_o, g43L]
  simp only [g99_o, Nat.zero_add]
  unfold UseA at hA
  unfold UseB at hB
  unfold mvA mvB fI
  cases h1 : one1 kd <;> cases h2 : two kd
  · rfl
  · rw [h2] at hA hB
    simp only [Bool.true_or, true_implies] at hA hB
    simp only [cond_true, cond_false, Bool.true_or]
    rw [if_pos hA, if_pos (by omega), if_pos hB, if_pos (by omega)]
  · rw [h1, h2] at hA
    simp only [Bool.or_true, true_implies] at hA
    simp only [cond_true, cond_false, Bool.or_true]
    rw [if_pos hA, if_pos (by omega)]
  · rw [h2] at hA hB
    simp only [Bool.true_or, true_implies] at hA hB
    simp only [cond_true, cond_false, Bool.true_or]
    rw [if_pos hA, if_pos (by omega), if_pos hB, if_pos (by omega)]
open Classical in
theorem shareS {α : Type} (m a : Nat) {u : List (List Int)} (hu : RowN u) (hm : 1048576 < m) (k1 k : List (List Int) → List Int → Option α) :
    g35 m 0 u.length a u.length u k1 k = if (1 ≤ u.length ∧ u.length ≤ 40) ∧ OkFrom u 0 then k (shSt u u.length).1 (shSt u u.length).2 else k1 [] [] := by
  have h2 := hu.len
  rw [g35_o, g42L m a hu (by omega)]
  by_cases hu0 : (1 ≤ u.length ∧ u.length ≤ 40) ∧ OkFrom u 0
  · rw [dT hu0, if_pos hu0, Bool.not_true, cond_false, if_pos ⟨rfl, by omega, by omega⟩]
    have := loopR (fun m' i => g35l0 (g75v1 m) (g35l2M m) 0 u.length a 0 u.length u.length u.length u u.length (fun l756 l757 => k l756 l757) m' (i : Int) (shSt u i).1 (shSt u i).2) (fun _ => k (shSt u u.length).1 (shSt u u.length).2) u.length
      (fun m' => ?_) (fun m' i hi h => ?_) u.length 0 m (by omega) (by omega)
    · exact this
    · rw [g35l0_s, dF (by omega), cond_false]
    · obtain ⟨hA, hB⟩ := ok_at hu0.2 hi
      obtain ⟨q1, q2⟩ := shSt_len u i
      rw [g35l0_s, dT (by omega), cond_true, if_pos (cast_lt hi), Int.toNat_natCast, Nat.zero_add, if_pos hi]
      dsimp only
      rw [g75v1L m _ _ q2 (fun h => by have := hA h; omega) (fun h => by have := hB h; omega), g35l2L m _ _ _ _ _ _ _ _ _ _ _ _ _ _ _ _ _ (by omega) hm, if_pos (cast_lt hi), if_pos (cast_lt hi), if_pos hi, if_pos hi, if_pos (by omega), wrapS (by omega), ← h]
      show cond ((((shP u (shSt u i) i : Nat) : Int)) == (((shSt u i).1.length : Nat) : Int)) _ _ = g35l0 (g75v1 m) (g35l2M m) 0 u.length a 0 u.length u.length u.length u u.length (fun l756 l757 => k l756 l757) m' ((i + 1 : Nat) : Int) (shStep u (shSt u i) i).1 (shStep u (shSt u i) i).2
      have hle := shP_le u (shSt u i) i
      unfold shStep
      by_cases hp : shP u (shSt u i) i < (shSt u i).1.length
      · rw [show ((((shP u (shSt u i) i : Nat) : Int)) == (((shSt u i).1.length : Nat) : Int)) = false from beq_eq_false_iff_ne.2 (by omega), cond_false, if_pos hp]; rfl
      · rw [show ((((shP u (shSt u i) i : Nat) : Int)) == (((shSt u i).1.length : Nat) : Int)) = true from beq_iff_eq.2 (by omega), cond_true, if_neg hp]; rfl
  · rw [dF hu0, if_neg hu0]; rfl
open Classical in
theorem shareI {α : Type} (m a : Nat) {u : List (List Int)} (hu : RowN u) (hm : 1048576 < m) (k1 : Option α) (k : List (List Int) → List Int → Option α) :
    g36 m 0 u.length a u.length u k1 k = if (1 ≤ u.length ∧ u.length ≤ 40) ∧ OkFrom u 0 then k (shSt u u.length).1 (shSt u u.length).2 else k1 := by
  have h2 := hu.len
  rw [g36_o, g17L m a hu (by omega)]
  by_cases hu0 : (1 ≤ u.length ∧ u.length ≤ 40) ∧ OkFrom u 0
  · rw [dT hu0, if_pos hu0, Bool.not_true, cond_false, g79_o, if_pos ⟨rfl, by omega, by omega⟩]
    have := loopR (fun m' i => g79l0 (g77v1 m) (g100 m) 0 u.length a ((u.length : Nat) : Int) u.length u 0 u.length u.length u.length (fun l859 l860 => k l859 l860) m' (i : Int) (shSt u i).1 (shSt u i).2) (fun _ => k (shSt u u.length).1 (shSt u u.length).2) u.length
      (fun m' => ?_) (fun m' i hi h => ?_) u.length 0 m (by omega) (by omega)
    · exact this
    · rw [g79l0_s, dF (by omega), cond_false]
    · obtain ⟨hA, hB⟩ := ok_at hu0.2 hi
      obtain ⟨q1, q2⟩ := shSt_len u i
      rw [g79l0_s, dT (by omega), cond_true, if_pos (cast_lt hi), Int.toNat_natCast, Nat.zero_add, if_pos hi]
      dsimp only
      rw [g77v1L m _ _ q2 (fun h => by have := hA h; omega) (fun h => by have := hB h; omega), g100L m _ _ _ _ _ _ (by omega) hm, if_pos (cast_lt hi), if_pos (cast_lt hi), if_pos hi, if_pos hi, if_pos (show (shSt u i).1.length + 1 ≤ 67108864 by omega), wrapS (by omega), ← h]
      show cond (decide ((if shP u (shSt u i) i < (shSt u i).1.length then ((shP u (shSt u i) i : Nat) : Int) else -1) < (0 : Int))) _ _ = g79l0 (g77v1 m) (g100 m) 0 u.length a ((u.length : Nat) : Int) u.length u 0 u.length u.length u.length (fun l859 l860 => k l859 l860) m' ((i + 1 : Nat) : Int) (shStep u (shSt u i) i).1 (shStep u (shSt u i) i).2
      have hle := shP_le u (shSt u i) i
      unfold shStep
      by_cases hp : shP u (shSt u i) i < (shSt u i).1.length
      · have hp' := hp
        unfold shP at hp'
        rw [if_pos hp, dF (by omega), cond_false, if_pos hp, if_pos hp']; rfl
      · have he : shP u (shSt u i) i = (shSt u i).1.length := by omega
        rw [if_neg hp, dT (by omega), cond_true, if_neg hp, he]; rfl
  · rw [dF hu0, if_neg hu0]; rfl
open Classical in
theorem law9 {α : Type} (m cap : Nat) {u : List (List Int)} (h5 : EK.Ws (.rc [.i8, .i16, .i16, .i64, .i64]) u) (hu : u.length ≤ 9223372036854775807) (hm : 1048576 < m) (k : Bool → Option α) :
    g9 m 0 u.length cap u.length u k = k true := by
  rw [g9_o, show (1048576 : Int) = ((1048576 : Nat) : Int) from rfl, g11L m 0 cap u (Nat.le_refl _) hu]
  by_cases hul : u.length ≤ 1048576
  · have hU := rowN_of h5 hul
    have hm1 : u.length < m := by omega
    have m0 : 0 < m := by omega
    rw [if_pos hul, dF (by omega), cond_false, g13L m cap hU.toRow5 hm1, shareS m _ hU hm]
    by_cases hu0 : (1 ≤ u.length ∧ u.length ≤ 40) ∧ OkFrom u 0
    · obtain ⟨q1, q2⟩ := shSt_len u u.length
      rw [if_pos hu0, g13L m cap hU.toRow5 hm1, shareI m _ hU hm, if_pos hu0, g15v2T m _ (by omega) hm, Bool.not_true, cond_false, g28v3T m _ _ _ _ hul hm, Bool.not_true, cond_false, g13L m cap hU.toRow5 hm1, g15v1T m _ _ _ _ hul hm, Bool.not_true, cond_false,
        g29L m _ _ rfl hul hm (by omega) (by omega), dF (by omega), cond_false, g15v2T m _ (by omega) hm, Bool.not_true, cond_false, g28v3T m _ _ _ _ hul hm, Bool.not_true, cond_false, g29v2L m (by omega) hm (by omega) (by omega),
        g30v1L m _ _ q2 hul hm (by omega) (by omega), g34v1L m _ (by omega) hm (by omega) (by omega), dF (by omega), cond_false, g31v1L m _ _ hul hm (by omega) (by omega), dF (by omega), cond_false, bne_self_eq_false, cond_false,
        g13L m cap hU.toRow5 hm1, shareI m _ hU hm, if_pos hu0, g15v2T m _ (by omega) hm, Bool.not_true, cond_false, g28v3T m _ _ _ _ hul hm, Bool.not_true, cond_false, g34v1L m _ (by omega) hm (by omega) (by omega), dF (by omega), cond_false,
        g31v1L m _ _ hul hm (by omega) (by omega), dF (by omega), cond_false, bne_self_eq_false, cond_false]
    · rw [if_neg hu0, g13L m cap hU.toRow5 hm1, shareI m _ hU hm, if_neg hu0, g15L0 m m0, Bool.not_true, cond_false, g28L0 m m0, Bool.not_true, cond_false, g13L m cap hU.toRow5 hm1, g15v1T m _ _ _ _ hul hm, Bool.not_true, cond_false,
        g29L m _ _ rfl hul hm (by omega) (by omega), dF (by omega), cond_false, g15L0 m m0, Bool.not_true, cond_false, g28L0 m m0, Bool.not_true, cond_false, g29v1L m m0, g30L m m0, g34L m m0, g31L m m0,
        g13L m cap hU.toRow5 hm1, shareI m _ hU hm, if_neg hu0, g15L0 m m0, Bool.not_true, cond_false, g28L0 m m0, Bool.not_true, cond_false, g34L m m0, g31L m m0]
  · rw [if_neg hul, dT (by omega), cond_true]
def ap9 : List AP := [.sl (.rc [.i8, .i16, .i16, .i64, .i64])]
theorem law9m (m : Nat) (hm : 1048576 < m) (ls : List Lf) (hw : WA ap9 ls) : g9K (g9 m) ls (fun v _ _ => saysTrue v) = some () := by
  obtain ⟨⟨a1, a2, a3, a4, a5, a6⟩, _⟩ := hw
  rw [maxLen_eq] at a4
  unfold g9K
  have e0 : (lf ls 0).nat = 0 := a1
  have e1 : (lf ls 1).nat = ((lf ls 4).lst (.rc [.i8, .i16, .i16, .i64, .i64])).length := a5.symm
  have e3 : (lf ls 3).nat = (lf ls 1).nat := a2
  have c1 : (lf ls 1).nat ≤ (lf ls 2).nat := a3
  have c2 : (lf ls 2).nat ≤ 9223372036854775807 := a4
  have w1 : EK.Ws (.rc [.i8, .i16, .i16, .i64, .i64]) ((lf ls 4).lst (.rc [.i8, .i16, .i16, .i64, .i64])) := a6
  rw [e3, e0, e1]
  exact law9 m _ w1 (by omega) hm _
theorem law9' (ls : List Lf) (hw : WA ap9 ls) : g9K (g9 1048577) ls (fun v _ _ => saysTrue v) = some () := law9m 1048577 (by omega) ls hw
end Go.Proofs.Ytobejeiffgehfaa.Sx
