/- Plain laws: of which nodes a node is made; ReachOf. Our own work. -/
import Derived.Test.YtobejeiffgehfaaTermF
namespace Go.Proofs.Ytobejeiffgehfaa.Sx
open Go
set_option linter.unusedVariables false
set_option linter.unusedSimpArgs false
set_option maxRecDepth 100000
def kdOf (u : List (List Int)) (i : Nat) : Int := (List.getD u i []).headD 0
def aOf (u : List (List Int)) (i : Nat) : Int := (List.getD u i []).tail.headD 0
def bOf (u : List (List Int)) (i : Nat) : Int := (List.getD u i []).tail.tail.headD 0
def mkStep (u : List (List Int)) (b : List Bool) (i : Nat) : List Bool :=
  cond (List.getD b i false) (cond (two (kdOf u i)) ((cond (two (kdOf u i) || one1 (kdOf u i)) (b.set (aOf u i).toNat true) b).set (bOf u i).toNat true) (cond (two (kdOf u i) || one1 (kdOf u i)) (b.set (aOf u i).toNat true) b)) b
def mkSt' (u : List (List Int)) (p : Nat) : Nat → List Bool
  | 0 => (List.replicate u.length false).set p true
  | t + 1 => mkStep u (mkSt' u p t) (p - t)
theorem mkStep_len (u : List (List Int)) (b : List Bool) (i : Nat) : (mkStep u b i).length = b.length := by
  unfold mkStep
  cases List.getD b i false <;> cases two (kdOf u i) <;> cases one1 (kdOf u i) <;> simp
theorem mkSt_len (u : List (List Int)) (p : Nat) : ∀ t, (mkSt' u p t).length = u.length
  | 0 => by simp [mkSt']
  | t + 1 => by rw [mkSt', mkStep_len, mkSt_len u p t]
theorem getD_set_ne {T : Type} (l : List T) (d x : T) {i j : Nat} (h : i ≠ j) : List.getD (l.set i x) j d = List.getD l j d := by simp [List.getD, List.getElem?_set_ne h]
/-- A step marks earlier nodes alone. -/
theorem mkStep_at {u : List (List Int)} (b : List Bool) {i j : Nat} (hA : UseA (kdOf u i) (aOf u i) i) (hB : UseB (kdOf u i) (bOf u i) i) (hj : i ≤ j) : List.getD (mkStep u b i) j false = List.getD b j false := by
  unfold mkStep
  unfold UseA at hA
  unfold UseB at hB
  cases hb : List.getD b i false
  · rfl
  · cases h2 : two (kdOf u i)
    · cases h1 : one1 (kdOf u i)
      · rfl
      · rw [h1, h2] at hA
        simp only [Bool.or_true, true_implies] at hA
        simp only [cond_true, cond_false, Bool.or_true]
        exact getD_set_ne _ _ _ (by omega)
    · rw [h2] at hA hB
      simp only [Bool.true_or, true_implies] at hA hB
      simp only [cond_true, cond_false, Bool.true_or]
      rw [getD_set_ne _ _ _ (by omega), getD_set_ne _ _ _ (by omega)]
theorem mkSt_at {u : List (List Int)} (hu : OkFrom u 0) {p : Nat} (hp : p < u.length) : ∀ (d t : Nat), t + d ≤ p + 1 → ∀ j, p ≤ j + t → List.getD (mkSt' u p (t + d)) j false = List.getD (mkSt' u p t) j false
  | 0, t, _, j, _ => rfl
  | d + 1, t, h, j, hj => by
    have hi : p - (t + d) < u.length := by omega
    obtain ⟨hA, hB⟩ := ok_at hu hi
    rw [show t + (d + 1) = t + d + 1 by omega, mkSt', mkStep_at _ hA hB (by omega)]
    exact mkSt_at hu hp d t (by omega) j hj
/-- What is marked in the end. -/
def marked (u : List (List Int)) (p : Nat) : List Bool := mkSt' u p (p + 1)
theorem marked_len (u : List (List Int)) (p : Nat) : (marked u p).length = u.length := mkSt_len u p _
theorem marked_at {u : List (List Int)} (hu : OkFrom u 0) {p t : Nat} (hp : p < u.length) (ht : t ≤ p) : List.getD (mkSt' u p t) (p - t) false = List.getD (marked u p) (p - t) false := by
  have := mkSt_at hu hp (p + 1 - t) t (by omega) (p - t) (by omega)
  rw [show t + (p + 1 - t) = p + 1 by omega] at this
  exact this.symm
theorem marked_above {u : List (List Int)} (hu : OkFrom u 0) {p j : Nat} (hp : p < u.length) (hj : p < j) : List.getD (marked u p) j false = false := by
  have := mkSt_at hu hp (p + 1) 0 (by omega) j (by omega)
  rw [Nat.zero_add] at this
  unfold marked
  rw [this, mkSt', getD_set_ne _ _ _ (by omega)]
  by_cases h : j < u.length
  · simp [List.getD, h]
  · simp [List.getD, h]
def filt (M : List Bool) (l : List Nat) : List Int := (l.filter fun j => List.getD M j false).map fun (j : Nat) => (j : Int)
theorem filt_len (M : List Bool) (l : List Nat) : (filt M l).length ≤ l.length := by simp [filt, List.length_filter_le]
theorem filt_snoc (M : List Bool) (i : Nat) : filt M (List.range (i + 1)) = cond (List.getD M i false) (filt M (List.range i) ++ [(i : Int)]) (filt M (List.range i)) := by
  unfold filt
  rw [List.range_succ, List.filter_append, List.map_append, List.filter_cons, List.filter_nil]
  cases List.getD M i false
  · simp only [Bool.false_eq_true, if_false, List.map_nil, List.append_nil, cond_false]
  · rfl
theorem filt_cons (M : List Bool) (i c : Nat) : filt M (List.range' i (c + 1)) = cond (List.getD M i false) ((i : Int) :: filt M (List.range' (i + 1) c)) (filt M (List.range' (i + 1) c)) := by
  unfold filt
  rw [List.range'_succ, List.filter_cons]
  cases List.getD M i false <;> rfl
/-- The nodes of which a node is made. -/
def reachL (u : List (List Int)) (p : Nat) : List Int := filt (marked u p) (List.range u.length)
theorem reachL_eq {u : List (List Int)} (hu : OkFrom u 0) {p : Nat} (hp : p < u.length) : ∀ d, p + 1 + d ≤ u.length → filt (marked u p) (List.range (p + 1 + d)) = filt (marked u p) (List.range (p + 1))
  | 0, _ => rfl
  | d + 1, h => by
    rw [show p + 1 + (d + 1) = p + 1 + d + 1 by omega, filt_snoc, marked_above hu hp (by omega), cond_false]
    exact reachL_eq hu hp d (by omega)
theorem reachL_low {u : List (List Int)} (hu : OkFrom u 0) {p : Nat} (hp : p < u.length) : reachL u p = filt (marked u p) (List.range' 0 (p + 1)) := by
  have := reachL_eq hu hp (u.length - (p + 1)) (by omega)
  rw [show p + 1 + (u.length - (p + 1)) = u.length by omega] at this
  unfold reachL
  rw [this, List.range_eq_range']
/-! ### Codes -/
open Classical in
theorem askS {α : Type} (m a : Nat) {u : List (List Int)} (hu : RowN u) (hm : 1048576 < m) (p : Int) (k : Int → Option α) :
    g71 m 0 u.length a p (0 : Int) u.length u k = if (1 ≤ u.length ∧ u.length ≤ 40) ∧ OkFrom u 0 then (if 0 ≤ p ∧ p < u.length then k 0 else k 2) else k 1 := by
  have h2 := hu.len
  rw [g71_o, g42L m a hu (by omega)]
  by_cases hu0 : (1 ≤ u.length ∧ u.length ≤ 40) ∧ OkFrom u 0
  · rw [dT hu0, if_pos hu0, Bool.not_true, cond_false, g94_o, g81L, wrapI (by omega) (by omega)]
    by_cases hp : 0 ≤ p ∧ p < u.length
    · rw [dT (by omega), Bool.not_true, cond_false, g58_o, g81L, dT (by omega), Bool.not_true, cond_false, if_pos hp]
    · rw [dF (by omega), if_neg hp]; rfl
  · rw [dF hu0, if_neg hu0]; rfl
open Classical in
theorem begI {α : Type} (m a : Nat) {u : List (List Int)} (hu : RowN u) (hm : 1048576 < m) (p : Int) (k1 : Int → Option α) (k : Option α) :
    g73 m 0 u.length a (0 : Int) (0 : Int) 0 1 1 u.length u [p] k1 k = if (1 ≤ u.length ∧ u.length ≤ 40) ∧ OkFrom u 0 then (if 0 ≤ p ∧ p < u.length then k else k1 2) else k1 1 := by
  have h2 := hu.len
  obtain ⟨q, rfl⟩ : ∃ q, m = q + 2 := ⟨m - 2, by omega⟩
  rw [g73_o, g17L (q + 2) a hu (by omega)]
  by_cases hu0 : (1 ≤ u.length ∧ u.length ≤ 40) ∧ OkFrom u 0
  · rw [dT hu0, if_pos hu0, Bool.not_true, cond_false, g97_o, show q + 2 = (q + 1) + 1 from rfl, g97l0_s, dT (by omega), cond_true, if_pos (by omega), if_pos (by decide), g64L, wrapI (x := ((u.length : Nat) : Int) - 1) (by omega) (by omega)]
    by_cases hp : 0 ≤ p ∧ p < u.length
    · rw [dT (show 0 ≤ List.getD [p] (0 + (0 : Int).toNat) 0 ∧ List.getD [p] (0 + (0 : Int).toNat) 0 ≤ ((u.length : Nat) : Int) - 1 by
          show 0 ≤ p ∧ p ≤ ((u.length : Nat) : Int) - 1; omega), Bool.not_true, cond_false, g97l0_s, show IntKind.wrap .i64 ((0 : Int) + 1) = 1 from by decide, dF (by omega), cond_false, cond_false, g64L, dT (by omega), Bool.not_true, cond_false, g98_o, if_pos hp]
    · rw [dF (show ¬ (0 ≤ List.getD [p] (0 + (0 : Int).toNat) 0 ∧ List.getD [p] (0 + (0 : Int).toNat) 0 ≤ ((u.length : Nat) : Int) - 1) by
          show ¬ (0 ≤ p ∧ p ≤ ((u.length : Nat) : Int) - 1); omega), if_neg hp]; rfl
  · rw [dF hu0, if_neg hu0]; rfl
/-! ### The reference -/
theorem g72L {α : Type} (m a : Nat) {u : List (List Int)} (h40 : u.length ≤ 40) (hu : OkFrom u 0) {p : Nat} (hp : p < u.length) (hm : 1048576 < m) (k : List Int → Option α) : g72 m 0 u.length a (p : Int) u.length u k = k (reachL u p) := by
  rw [g72_o, if_pos ⟨rfl, by omega, by omega⟩, if_pos (cast_lt hp), Int.toNat_natCast, Nat.zero_add, if_pos hp]
  have := loopR (fun m' t => g72l0 (g95 m) (g96 m) 0 u.length a 0 u.length u.length u.length u u.length (fun l => k l) m' ((p : Int) - (t : Int)) (mkSt' u p t) (filt (marked u p) (List.range' (p + 1 - t) t))) (fun _ => k (reachL u p)) (p + 1)
    (fun m' => ?_) (fun m' t ht h => ?_) (p + 1) 0 m (by omega) (by omega)
  · simpa [mkSt', filt] using this
  · rw [g72l0_s, dF (by omega), cond_false, reachL_low hu hp, show p + 1 - (p + 1) = 0 by omega]
  · obtain ⟨i, hi⟩ : ∃ i, i = p - t := ⟨_, rfl⟩
    have hiu : i < u.length := by omega
    obtain ⟨hA, hB⟩ := ok_at hu hiu
    have hml := mkSt_len u p t
    have hmk := marked_at hu hp (show t ≤ p by omega)
    rw [← hi] at hmk
    have hfl := filt_len (marked u p) (List.range' (p + 1 - t) t)
    rw [List.length_range'] at hfl
    have hv : (p : Int) - (t : Int) = (i : Int) := by omega
    have hv2 : IntKind.wrap .i64 ((i : Int) - (1 : Int)) = (p : Int) - ((t + 1 : Nat) : Int) := by rw [wrapI (by omega) (by omega)]; omega
    have hr : filt (marked u p) (List.range' (p + 1 - (t + 1)) (t + 1)) = cond (List.getD (marked u p) i false) ((i : Int) :: filt (marked u p) (List.range' (p + 1 - t) t)) (filt (marked u p) (List.range' (p + 1 - t) t)) := by
      rw [show p + 1 - (t + 1) = i by omega, filt_cons, show i + 1 = p + 1 - t by omega]
    have hst : mkSt' u p (t + 1) = mkStep u (mkSt' u p t) i := by rw [mkSt', hi]
    rw [hr, hst] at h
    rw [hv, g72l0_s, dT (by omega), cond_true, if_pos (cast_lt hiu), Int.toNat_natCast, Nat.zero_add, if_pos hiu, hv2]
    unfold mkStep at h
    unfold UseA at hA
    unfold UseB at hB
    rw [← hmk] at h
    cases hb : List.getD (mkSt' u p t) i false
    · rw [hb] at h
      rw [Bool.not_false, cond_true]
      exact h
    · rw [hb] at h
      simp only [cond_true] at h
      have e1 : (0 : Int) ≤ (i : Int) ∧ (i : Int) < ((u.length : Nat) : Int) := cast_lt hiu
      simp only [Bool.not_true, cond_false, if_pos e1, if_pos hiu, g95L, g96L, Nat.zero_add]
      rw [if_pos (by omega)]
      unfold kdOf aOf bOf at h
      cases h1 : one1 ((List.getD u i []).headD 0) <;> cases h2 : two ((List.getD u i []).headD 0)
      · rw [h1, h2] at h
        exact h
      · rw [h1, h2] at h
        rw [h2] at hA hB
        simp only [Bool.true_or, true_implies] at hA hB
        simp only [cond_true, cond_false, Bool.true_or] at h ⊢
        rw [if_pos (by omega), if_pos (by omega), if_pos (by omega), if_pos (by omega)]
        exact h
      · rw [h1, h2] at h
        rw [h1, h2] at hA
        simp only [Bool.or_true, true_implies] at hA
        simp only [cond_true, cond_false, Bool.or_true] at h ⊢
        rw [if_pos (by omega), if_pos (by omega)]
        exact h
      · rw [h1, h2] at h
        rw [h2] at hA hB
        simp only [Bool.true_or, true_implies] at hA hB
        simp only [cond_true, cond_false, Bool.true_or] at h ⊢
        rw [if_pos (by omega), if_pos (by omega), if_pos (by omega), if_pos (by omega)]
        exact h
/-! ### The program -/
theorem g74L {α : Type} (m a : Nat) {u : List (List Int)} (h40 : u.length ≤ 40) (hu : OkFrom u 0) {p : Nat} (hp : p < u.length) (hm : 1048576 < m) (k : List Bool → Option α) : g74 m 0 u.length a (p : Int) u.length u k = k (marked u p) := by
  rw [g74_o, if_pos ⟨rfl, by omega, by omega⟩, if_pos (cast_lt hp), Int.toNat_natCast, Nat.zero_add, if_pos hp]
  have := loopR (fun m' t => g74l0 (g43 m) 0 u.length a 0 u.length u.length u.length u u.length (fun l => k l) m' ((p : Int) - (t : Int)) (mkSt' u p t)) (fun _ => k (marked u p)) (p + 1)
    (fun m' => ?_) (fun m' t ht h => ?_) (p + 1) 0 m (by omega) (by omega)
  · simpa [mkSt'] using this
  · rw [g74l0_s, dF (by omega), cond_false]; rfl
  · obtain ⟨i, hi⟩ : ∃ i, i = p - t := ⟨_, rfl⟩
    have hiu : i < u.length := by omega
    obtain ⟨hA, hB⟩ := ok_at hu hiu
    have hv : (p : Int) - (t : Int) = (i : Int) := by omega
    have hv2 : IntKind.wrap .i64 ((i : Int) - (1 : Int)) = (p : Int) - ((t + 1 : Nat) : Int) := by rw [wrapI (by omega) (by omega)]; omega
    have hst : mkSt' u p (t + 1) = mkStep u (mkSt' u p t) i := by rw [mkSt', hi]
    rw [hst] at h
    rw [hv, g74l0_s, dT (by omega), cond_true, if_pos (cast_lt hiu), Int.toNat_natCast, Nat.zero_add, if_pos hiu, hv2]
    unfold mkStep at h
    unfold UseA at hA
    unfold UseB at hB
    cases hb : List.getD (mkSt' u p t) i false
    · rw [hb] at h
      rw [Bool.not_false, cond_true]
      exact h
    · rw [hb] at h
      simp only [cond_true] at h
      have e1 : (0 : Int) ≤ (i : Int) ∧ (i : Int) < ((u.length : Nat) : Int) := cast_lt hiu
      simp only [Bool.not_true, cond_false, if_pos e1, if_pos hiu, g43L, Nat.zero_add]
      unfold kdOf aOf bOf at h
      cases h1 : one1 ((List.getD u i []).headD 0) <;> cases h2 : two ((List.getD u i []).headD 0)
      · rw [h1, h2] at h
        exact h
      · rw [h1, h2] at h
        rw [h2] at hA hB
        simp only [Bool.true_or, true_implies] at hA hB
        simp only [cond_true, cond_false, Bool.true_or] at h ⊢
        rw [if_pos (by omega), if_pos (by omega), if_pos (by omega), if_pos (by omega)]
        exact h
      · rw [h1, h2] at h
        rw [h1, h2] at hA
        simp only [Bool.or_true, true_implies] at hA
        simp only [cond_true, cond_false, Bool.or_true, Bool.false_or] at h ⊢
        rw [if_pos (by omega), if_pos (by omega)]
        exact h
      · rw [h1, h2] at h
        rw [h2] at hA hB
        simp only [Bool.true_or, true_implies] at hA hB
        simp only [cond_true, cond_false, Bool.true_or] at h ⊢
        rw [if_pos (by omega), if_pos (by omega), if_pos (by omega), if_pos (by omega)]
        exact h
theorem g27l0L {α : Type} (m n a : Nat) {u : List (List Int)} (M : List Bool) (h40 : n ≤ 40) (hm : 1048576 < m) (k : List Int → Option α) : g27l0 0 n a ((n : Nat) : Int) n u n M k m (0 : Int) [] = k (filt M (List.range n)) := by
  have := loopR (fun m' i => g27l0 0 n a ((n : Nat) : Int) n u n M k m' (i : Int) (filt M (List.range i))) (fun _ => k (filt M (List.range n))) n (fun m' => ?_) (fun m' i hi h => ?_) n 0 m (by omega) (by omega)
  · exact this
  · rw [g27l0_s, dF (by omega), cond_false]
  · have hfl := filt_len M (List.range i)
    rw [List.length_range] at hfl
    rw [g27l0_s, dT (by omega), cond_true, if_pos (cast_lt hi), Int.toNat_natCast, Nat.zero_add, if_pos hi, wrapS (by omega)]
    rw [filt_snoc] at h
    cases hb : List.getD M i false
    · rw [hb] at h; exact h
    · rw [hb] at h
      rw [cond_true, if_pos (by omega)]
      exact h
open Classical in
theorem reach_res (m a : Nat) {u : List (List Int)} (hu : RowN u) (hm : 1048576 < m) (p : Int) :
    (∃ x, (∀ {α : Type} (k : Int → List Int → Option α), g26 m 0 u.length a p u.length u k = k x []) ∧
      (∀ {α : Type} (k1 : Int → Option α) (k : List Int → Option α), g27 m 0 u.length a p u.length u k1 k = k1 x)) ∨
    (∃ l, l.length ≤ 40 ∧ (∀ {α : Type} (k : Int → List Int → Option α), g26 m 0 u.length a p u.length u k = k 0 l) ∧
      (∀ {α : Type} (k1 : Int → Option α) (k : List Int → Option α), u.length = a → g27 m 0 u.length a p u.length u k1 k = k l)) := by
  by_cases hu0 : (1 ≤ u.length ∧ u.length ≤ 40) ∧ OkFrom u 0
  · by_cases hp : 0 ≤ p ∧ p < u.length
    · obtain ⟨n, rfl⟩ : ∃ q : Nat, p = (q : Int) := ⟨p.toNat, by omega⟩
      have hn : n < u.length := by omega
      refine .inr ⟨reachL u n, ?_, fun k => ?_, fun k1 k ha => ?_⟩
      · have := filt_len (marked u n) (List.range u.length)
        rw [List.length_range] at this
        unfold reachL; omega
      · rw [g26_o, askS m a hu hm, if_pos hu0, if_pos hp, bne_self_eq_false, cond_false, g72L m a hu0.1.2 hu0.2 hn hm]
      · subst ha
        rw [g27_o, begI m _ hu hm, if_pos hu0, if_pos hp, g74L m _ hu0.1.2 hu0.2 hn hm, g27l0L m _ _ _ hu0.1.2 hm]; rfl
    · exact .inl ⟨2, fun k => by rw [g26_o, askS m a hu hm, if_pos hu0, if_neg hp]; rfl, fun k1 k => by rw [g27_o, begI m a hu hm, if_pos hu0, if_neg hp]; rfl⟩
  · exact .inl ⟨1, fun k => by rw [g26_o, askS m a hu hm, if_neg hu0]; rfl, fun k1 k => by rw [g27_o, begI m a hu hm, if_neg hu0]; rfl⟩
theorem law7 {α : Type} (m cap : Nat) (p : Int) {u : List (List Int)} (h5 : EK.Ws (.rc [.i8, .i16, .i16, .i64, .i64]) u) (hu : u.length ≤ 9223372036854775807) (hm : 1048576 < m) (k : Bool → Option α) :
    g7 m 0 u.length cap p u.length u k = k true := by
  rw [g7_o, show (1048576 : Int) = ((1048576 : Nat) : Int) from rfl, g11L m 0 cap u (Nat.le_refl _) hu]
  by_cases hul : u.length ≤ 1048576
  · have hU := rowN_of h5 hul
    have hm1 : u.length < m := by omega
    have m0 : 0 < m := by omega
    rw [if_pos hul, dF (by omega), cond_false, g13L m cap hU.toRow5 hm1]
    rcases reach_res m u.length hU hm p with ⟨x, e1, e2⟩ | ⟨l, hl, e1, e2⟩
    · rw [e1, g13L m cap hU.toRow5 hm1, e2, g28L0 m m0, Bool.not_true, cond_false, bne_self_eq_false, cond_false, g13L m cap hU.toRow5 hm1, g15v1T m _ _ _ _ hul hm, Bool.not_true, cond_false, g29L m _ _ rfl hul hm (by omega) (by omega), dF (by omega), cond_false,
        g28L0 m m0, Bool.not_true, cond_false, cond_false, g30L m m0, g31L m m0, g13L m cap hU.toRow5 hm1, e2, g28L0 m m0, Bool.not_true, cond_false, bne_self_eq_false, cond_false, g31L m m0]
    · have e3 := fun {α : Type} (k1 : Int → Option α) (k : List Int → Option α) => e2 k1 k rfl
      rw [e1, g13L m cap hU.toRow5 hm1, e3, g28v4T m _ (by omega) hm, Bool.not_true, cond_false, bne_self_eq_false, cond_false, g13L m cap hU.toRow5 hm1, g15v1T m _ _ _ _ hul hm, Bool.not_true, cond_false, g29L m _ _ rfl hul hm (by omega) (by omega), dF (by omega), cond_false,
        g28v4T m _ (by omega) hm, Bool.not_true, cond_false, cond_false, g30v2L m (by omega) hm (by omega) (by omega), g31v2L m _ (by omega) hm (by omega) (by omega), dF (by omega), cond_false, bne_self_eq_false, cond_false, g13L m cap hU.toRow5 hm1, e3,
        g28v4T m _ (by omega) hm, Bool.not_true, cond_false, cond_false, g31v2L m _ (by omega) hm (by omega) (by omega), dF (by omega), cond_false, bne_self_eq_false, cond_false]
  · rw [if_neg hul, dT (by omega), cond_true]
def ap7 : List AP := [.sl (.rc [.i8, .i16, .i16, .i64, .i64]), .flat (.vl (.sv (.int .i64)))]
theorem law7m (m : Nat) (hm : 1048576 < m) (ls : List Lf) (hw : WA ap7 ls) : g7K (g7 m) ls (fun v _ _ => saysTrue v) = some () := by
  obtain ⟨⟨a1, a2, a3, a4, a5, a6⟩, _⟩ := hw
  rw [maxLen_eq] at a4
  unfold g7K
  have e0 : (lf ls 0).nat = 0 := a1
  have e1 : (lf ls 1).nat = ((lf ls 5).lst (.rc [.i8, .i16, .i16, .i64, .i64])).length := a5.symm
  have e3 : (lf ls 4).nat = (lf ls 1).nat := a2
  have c1 : (lf ls 1).nat ≤ (lf ls 2).nat := a3
  have c2 : (lf ls 2).nat ≤ 9223372036854775807 := a4
  have w1 : EK.Ws (.rc [.i8, .i16, .i16, .i64, .i64]) ((lf ls 5).lst (.rc [.i8, .i16, .i16, .i64, .i64])) := a6
  rw [e3, e0, e1]
  exact law7 m _ _ w1 (by omega) hm _
theorem law7' (ls : List Lf) (hw : WA ap7 ls) : g7K (g7 1048577) ls (fun v _ _ => saysTrue v) = some () := law7m 1048577 (by omega) ls hw
end Go.Proofs.Ytobejeiffgehfaa.Sx
