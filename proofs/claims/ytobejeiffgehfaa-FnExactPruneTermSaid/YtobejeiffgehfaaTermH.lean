/- Plain laws: PruneTerm. Our own work. -/
import Derived.Test.YtobejeiffgehfaaTermG
namespace Go.Proofs.Ytobejeiffgehfaa.Sx
open Go
set_option linter.unusedVariables false
set_option linter.unusedSimpArgs false
set_option maxRecDepth 100000
def prStep (u : List (List Int)) (s : List (List Int) × List Int) (i : Nat) : List (List Int) × List Int :=
  (s.1 ++ [mvN (fI (s.2.set i ((s.1.length : Nat) : Int))) (List.getD u i [])], s.2.set i ((s.1.length : Nat) : Int))
def prF (u : List (List Int)) (l : List Nat) : List (List Int) × List Int := l.foldl (prStep u) ([], List.replicate u.length 0)
theorem prF_snoc (u : List (List Int)) (l : List Nat) (i : Nat) : prF u (l ++ [i]) = prStep u (prF u l) i := by simp [prF]
theorem pr_fold (u : List (List Int)) : ∀ (l : List Nat) (s : List (List Int) × List Int), (l.foldl (prStep u) s).1.length = s.1.length + l.length ∧ (l.foldl (prStep u) s).2.length = s.2.length
  | [], s => ⟨rfl, rfl⟩
  | i :: l, s => by
    obtain ⟨h1, h2⟩ := pr_fold u l (prStep u s i)
    rw [List.foldl_cons]
    refine ⟨by rw [h1]; simp [prStep]; omega, by rw [h2]; simp [prStep]⟩
theorem prF_len (u : List (List Int)) (l : List Nat) : (prF u l).1.length = l.length ∧ (prF u l).2.length = u.length := by
  obtain ⟨h1, h2⟩ := pr_fold u l ([], List.replicate u.length 0)
  exact ⟨by unfold prF; rw [h1]; simp, by unfold prF; rw [h2]; simp⟩
theorem pr_small (u : List (List Int)) : ∀ (l : List Nat) (s : List (List Int) × List Int) (B : Nat), s.1.length + l.length ≤ B → (∀ x ∈ s.2, 0 ≤ x ∧ x ≤ (B : Int)) → ∀ x ∈ (l.foldl (prStep u) s).2, 0 ≤ x ∧ x ≤ (B : Int)
  | [], s, B, _, h => h
  | i :: l, s, B, hl, h => by
    rw [List.foldl_cons]
    simp only [List.length_cons] at hl
    refine pr_small u l _ B (by simp [prStep]; omega) fun x hx => ?_
    simp only [prStep] at hx
    rcases List.mem_or_eq_of_mem_set hx with hx | rfl
    · exact h x hx
    · omega
theorem prF_small (u : List (List Int)) (l : List Nat) {B : Nat} (hl : l.length ≤ B) : ∀ x ∈ (prF u l).2, 0 ≤ x ∧ x ≤ (B : Int) :=
  pr_small u l _ B (by simpa using hl) fun x hx => by rw [List.eq_of_mem_replicate hx]; omega
theorem getD_mem_or {l : List Int} {i : Nat} : List.getD l i 0 ∈ l ∨ List.getD l i 0 = 0 := by
  by_cases h : i < l.length
  · left; rw [getD_at l 0 h]; exact List.getElem_mem h
  · right; simp [List.getD, h]
theorem fI_small {idx : List Int} (h : ∀ x ∈ idx, 0 ≤ x ∧ x ≤ (1000 : Int)) (a : Int) : fI idx a = List.getD idx a.toNat 0 := by
  unfold fI
  rcases getD_mem_or (l := idx) (i := a.toNat) with h1 | h1
  · have := h _ h1
    exact wrap16 (by omega) (by omega)
  · rw [h1]; decide
theorem g77v2L {α : Type} (m cap n : Nat) {kd a b p q : Int} {idx : List Int} (hs : ∀ x ∈ idx, 0 ≤ x ∧ x ≤ (1000 : Int)) (hn : idx.length = n) (hA : UseA kd a n) (hB : UseB kd b n) (k : Int → Int → Option α) : g77v2 m kd a b p q 0 n cap n idx k = k (mvA (fI idx) kd a) (mvB (fI idx) kd b) := by
  rw [g77v2_o, g43L]
  simp only [g80_o, Nat.zero_add]
  unfold UseA at hA
  unfold UseB at hB
  unfold mvA mvB
  simp only [fI_small hs]
  cases h1 : one1 kd <;> cases h2 : two kd
  · rfl
  · rw [h2] at hA hB
    simp only [Bool.true_or, true_implies] at hA hB
    simp only [cond_true, cond_false, Bool.true_or]
    rw [if_pos hA, if_pos (by omega), if_pos hB, if_pos (by omega)]
  · rw [h1, h2] at hA
    simp only [Bool.or_true, true_implies] at hA
    simp only [cond_true, cond_false, Bool.or_true]
    rw [if_pos hA, if_pos (by omega)]
  · rw [h2] at hA hB
    simp only [Bool.true_or, true_implies] at hA hB
    simp only [cond_true, cond_false, Bool.true_or]
    rw [if_pos hA, if_pos (by omega), if_pos hB, if_pos (by omega)]
def reachN (u : List (List Int)) (p : Nat) : List Nat := (List.range u.length).filter fun j => List.getD (marked u p) j false
theorem reachN_map (u : List (List Int)) (p : Nat) : reachL u p = (reachN u p).map fun (j : Nat) => (j : Int) := rfl
theorem reachN_len (u : List (List Int)) (p : Nat) : (reachN u p).length ≤ u.length := by
  have := List.length_filter_le (fun j => List.getD (marked u p) j false) (List.range u.length)
  rw [List.length_range] at this
  exact this
theorem reachN_lt {u : List (List Int)} {p k : Nat} (h : k < (reachN u p).length) : (reachN u p)[k] < u.length := by
  have := List.getElem_mem h
  unfold reachN at this
  have := (List.mem_filter.1 this).1
  exact List.mem_range.1 this
/-! ### The reference -/
open Classical in
theorem g37L {α : Type} (m a : Nat) {u : List (List Int)} (hu : RowN u) (h40 : u.length ≤ 40) (h1 : 1 ≤ u.length) (hok : OkFrom u 0) {p : Nat} (hp : p < u.length) (hm : 1048576 < m) (k : Int → List (List Int) → Option α) :
    g37 m 0 u.length a (p : Int) u.length u k = k 0 (prF u (reachN u p)).1 := by
  rw [g37_o, askS m a hu hm, if_pos ⟨⟨h1, h40⟩, hok⟩, if_pos ⟨by omega, by omega⟩, bne_self_eq_false, cond_false, g72L m a h40 hok hp hm, if_pos ⟨rfl, by omega, by omega⟩]
  have hrl : (reachL u p).length = (reachN u p).length := by rw [reachN_map]; simp
  have hr40 := reachN_len u p
  have := loopR (fun m' i => g37l0 (g75v1 m) 0 u.length a 0 u.length u.length u.length u (reachL u p) u.length (fun l => k 0 l) m' (i : Int) (prF u ((reachN u p).take i)).2 (prF u ((reachN u p).take i)).1) (fun _ => k 0 (prF u (reachN u p)).1) (reachN u p).length
    (fun m' => ?_) (fun m' i hi h => ?_) (reachN u p).length 0 m (by omega) (by omega)
  · exact this
  · rw [g37l0_s, hrl, dF (by omega), cond_false, List.take_of_length_le (Nat.le_refl _)]
  · obtain ⟨q1, q2⟩ := prF_len u ((reachN u p).take i)
    have hlt := reachN_lt hi
    have hg : List.getD (reachL u p) i 0 = (((reachN u p)[i] : Nat) : Int) := by rw [reachN_map]; simp [List.getD, hi]
    generalize hj : (reachN u p)[i] = j at hlt hg
    have htl : ((reachN u p).take i).length = i := by rw [List.length_take]; omega
    rw [htl] at q1
    obtain ⟨hA, hB⟩ := ok_at hok hlt
    have hst : prF u ((reachN u p).take (i + 1)) = prStep u (prF u ((reachN u p).take i)) j := by rw [List.take_succ_eq_append_getElem hi, prF_snoc, hj]
    rw [hst] at h
    rw [g37l0_s, hrl, dT (by omega), cond_true, if_pos (cast_lt hi), Int.toNat_natCast, if_pos hi]
    dsimp only
    rw [hg, if_pos (cast_lt hlt), Int.toNat_natCast, Nat.zero_add, if_pos hlt, if_pos (cast_lt hi), if_pos hi, if_pos (cast_lt hlt), if_pos hlt,
      g75v1L m _ _ (by rw [List.length_set, q2]) (fun h => by have := hA h; omega) (fun h => by have := hB h; omega), if_pos (by omega), wrapS (by omega), ← h]
    unfold prStep
    rw [q1]; rfl
/-! ### The program -/
theorem g38l0L {α : Type} (m : Nat) {u : List (List Int)} (h40 : u.length ≤ 40) (hok : OkFrom u 0) {p : Nat} (hp : p < u.length) (hm : 1048576 < m) (k : List (List Int) → Option α) (a : Nat) :
    g38l0 (g77v2 m) 0 u.length a 0 u.length u.length ((u.length : Nat) : Int) u.length u 0 u.length u.length u.length (marked u p) u.length k m (0 : Int) [] (List.replicate u.length 0) = k (prF u (reachN u p)).1 := by
  have := loopR (fun m' i => g38l0 (g77v2 m) 0 u.length a 0 u.length u.length ((u.length : Nat) : Int) u.length u 0 u.length u.length u.length (marked u p) u.length k m' (i : Int)
      (prF u ((List.range i).filter fun j => List.getD (marked u p) j false)).1 (prF u ((List.range i).filter fun j => List.getD (marked u p) j false)).2) (fun _ => k (prF u (reachN u p)).1) u.length
    (fun m' => ?_) (fun m' i hi h => ?_) u.length 0 m (by omega) (by omega)
  · exact this
  · rw [g38l0_s, dF (by omega), cond_false]; rfl
  · rw [List.range_succ, List.filter_append, List.filter_cons, List.filter_nil] at h
    generalize hL : ((List.range i).filter fun j => List.getD (marked u p) j false) = L at h ⊢
    have hLl : L.length ≤ i := by
      have := List.length_filter_le (fun j => List.getD (marked u p) j false) (List.range i)
      rw [hL, List.length_range] at this; exact this
    obtain ⟨q1, q2⟩ := prF_len u L
    obtain ⟨hA, hB⟩ := ok_at hok hi
    rw [g38l0_s, dT (by omega), cond_true, if_pos (cast_lt hi), Int.toNat_natCast, Nat.zero_add, if_pos hi]
    cases hb : List.getD (marked u p) i false
    · rw [hb] at h
      simp only [Bool.false_eq_true, if_false, List.append_nil] at h
      rw [cond_false, wrapS (by omega)]
      exact h
    · rw [hb] at h
      simp only [if_true] at h
      rw [prF_snoc] at h
      have hsm : ∀ x ∈ (prF u L).2.set i (((prF u L).1.length : Nat) : Int), 0 ≤ x ∧ x ≤ (1000 : Int) := by
        intro x hx
        rcases List.mem_or_eq_of_mem_set hx with hx | rfl
        · exact prF_small u L (B := 1000) (by omega) x hx
        · omega
      rw [cond_true, if_pos (cast_lt hi), if_pos hi]
      dsimp only
      rw [wrap16 (x := (((prF u L).1.length : Nat) : Int)) (by omega) (by omega), if_pos (cast_lt hi), if_pos hi,
        g77v2L m _ _ hsm (by rw [List.length_set, q2]) (fun h => by have := hA h; omega) (fun h => by have := hB h; omega), if_pos (by omega), wrapS (by omega), ← h]
      rfl
open Classical in
theorem prune_res (m : Nat) {u : List (List Int)} (hu : RowN u) (hm : 1048576 < m) (p : Int) :
    (∃ x, (∀ {α : Type} (k : Int → List (List Int) → Option α), g37 m 0 u.length u.length p u.length u k = k x []) ∧
      (∀ {α : Type} (k1 : Int → Option α) (k : List (List Int) → Option α), g38 m 0 u.length u.length p u.length u k1 k = k1 x)) ∨
    (∃ l, l.length ≤ 40 ∧ (∀ {α : Type} (k : Int → List (List Int) → Option α), g37 m 0 u.length u.length p u.length u k = k 0 l) ∧
      (∀ {α : Type} (k1 : Int → Option α) (k : List (List Int) → Option α), g38 m 0 u.length u.length p u.length u k1 k = k l)) := by
  by_cases hu0 : (1 ≤ u.length ∧ u.length ≤ 40) ∧ OkFrom u 0
  · by_cases hp : 0 ≤ p ∧ p < u.length
    · obtain ⟨n, rfl⟩ : ∃ q : Nat, p = (q : Int) := ⟨p.toNat, by omega⟩
      have hn : n < u.length := by omega
      refine .inr ⟨(prF u (reachN u n)).1, ?_, fun k => ?_, fun k1 k => ?_⟩
      · rw [(prF_len u _).1]
        have := reachN_len u n
        omega
      · exact g37L m _ hu hu0.1.2 hu0.1.1 hu0.2 hn hm k
      · rw [g38_o, begI m _ hu hm, if_pos hu0, if_pos hp, if_pos ⟨rfl, by omega, by omega⟩, g74L m _ hu0.1.2 hu0.2 hn hm]
        exact g38l0L m hu0.1.2 hu0.2 hn hm _ _
    · exact .inl ⟨2, fun k => by rw [g37_o, askS m _ hu hm, if_pos hu0, if_neg hp]; rfl, fun k1 k => by rw [g38_o, begI m _ hu hm, if_pos hu0, if_neg hp]; rfl⟩
  · exact .inl ⟨1, fun k => by rw [g37_o, askS m _ hu hm, if_neg hu0]; rfl, fun k1 k => by rw [g38_o, begI m _ hu hm, if_neg hu0]; rfl⟩
theorem law10 {α : Type} (m cap : Nat) (p : Int) {u : List (List Int)} (h5 : EK.Ws (.rc [.i8, .i16, .i16, .i64, .i64]) u) (hu : u.length ≤ 9223372036854775807) (hm : 1048576 < m) (k : Bool → Option α) :
    g10 m 0 u.length cap p u.length u k = k true := by
  rw [g10_o, show (1048576 : Int) = ((1048576 : Nat) : Int) from rfl, g11L m 0 cap u (Nat.le_refl _) hu]
  by_cases hul : u.length ≤ 1048576
  · have hU := rowN_of h5 hul
    have hm1 : u.length < m := by omega
    have m0 : 0 < m := by omega
    rw [if_pos hul, dF (by omega), cond_false, g13L m cap hU.toRow5 hm1]
    rcases prune_res m hU hm p with ⟨x, e1, e2⟩ | ⟨l, hl, e1, e2⟩
    · rw [e1, g13L m cap hU.toRow5 hm1, e2, g15L0 m m0, Bool.not_true, cond_false, bne_self_eq_false, cond_false, g13L m cap hU.toRow5 hm1, g15v1T m _ _ _ _ hul hm, Bool.not_true, cond_false, g29L m _ _ rfl hul hm (by omega) (by omega), dF (by omega), cond_false,
        g15L0 m m0, Bool.not_true, cond_false, cond_false, g29v1L m m0, g34L m m0, g13L m cap hU.toRow5 hm1, e2, g15L0 m m0, Bool.not_true, cond_false, bne_self_eq_false, cond_false, g34L m m0]
    · rw [e1, g13L m cap hU.toRow5 hm1, e2, g15v2T m _ (by omega) hm, Bool.not_true, cond_false, bne_self_eq_false, cond_false, g13L m cap hU.toRow5 hm1, g15v1T m _ _ _ _ hul hm, Bool.not_true, cond_false, g29L m _ _ rfl hul hm (by omega) (by omega), dF (by omega), cond_false,
        g15v2T m _ (by omega) hm, Bool.not_true, cond_false, cond_false, g29v2L m (by omega) hm (by omega) (by omega), g34v1L m _ (by omega) hm (by omega) (by omega), dF (by omega), cond_false, bne_self_eq_false, cond_false, g13L m cap hU.toRow5 hm1, e2,
        g15v2T m _ (by omega) hm, Bool.not_true, cond_false, cond_false, g34v1L m _ (by omega) hm (by omega) (by omega), dF (by omega), cond_false, bne_self_eq_false, cond_false]
  · rw [if_neg hul, dT (by omega), cond_true]
theorem law10m (m : Nat) (hm : 1048576 < m) (ls : List Lf) (hw : WA ap7 ls) : g10K (g10 m) ls (fun v _ _ => saysTrue v) = some () := by
  obtain ⟨⟨a1, a2, a3, a4, a5, a6⟩, _⟩ := hw
  rw [maxLen_eq] at a4
  unfold g10K
  have e0 : (lf ls 0).nat = 0 := a1
  have e1 : (lf ls 1).nat = ((lf ls 5).lst (.rc [.i8, .i16, .i16, .i64, .i64])).length := a5.symm
  have e3 : (lf ls 4).nat = (lf ls 1).nat := a2
  have c1 : (lf ls 1).nat ≤ (lf ls 2).nat := a3
  have c2 : (lf ls 2).nat ≤ 9223372036854775807 := a4
  have w1 : EK.Ws (.rc [.i8, .i16, .i16, .i64, .i64]) ((lf ls 5).lst (.rc [.i8, .i16, .i16, .i64, .i64])) := a6
  rw [e3, e0, e1]
  exact law10 m _ _ w1 (by omega) hm _
theorem law10' (ls : List Lf) (hw : WA ap7 ls) : g10K (g10 1048577) ls (fun v _ _ => saysTrue v) = some () := law10m 1048577 (by omega) ls hw
end Go.Proofs.Ytobejeiffgehfaa.Sx
