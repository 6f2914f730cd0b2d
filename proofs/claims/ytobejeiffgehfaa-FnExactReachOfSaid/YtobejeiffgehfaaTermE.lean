/- Plain laws: JoinTerms. Our own work. -/
import Derived.Test.YtobejeiffgehfaaTermD
namespace Go.Proofs.Ytobejeiffgehfaa.Sx
open Go
set_option linter.unusedVariables false
set_option linter.unusedSimpArgs false
set_option maxRecDepth 100000
theorem wrap16 {x : Int} (h1 : -32768 ≤ x) (h2 : x ≤ 32767) : IntKind.wrap .i16 x = x := by
  have : IntKind.wrap .i16 x = if (x % 65536) ≥ 32768 then x % 65536 - 65536 else x % 65536 := by
    simp [IntKind.wrap, IntKind.bits, IntKind.signed]
  rw [this]
  split <;> omega
/-- A node with other indices. -/
def mvA (f : Int → Int) (kd a : Int) : Int := cond (two kd || one1 kd) (f a) a
def mvB (f : Int → Int) (kd b : Int) : Int := cond (two kd) (f b) b
def mvN (f : Int → Int) (x : List Int) : List Int := [x.headD 0, mvA f (x.headD 0) (x.tail.headD 0), mvB f (x.headD 0) (x.tail.tail.headD 0), x.tail.tail.tail.headD 0, x.tail.tail.tail.tail.headD 0]
theorem mvN_length (f : Int → Int) (x : List Int) : (mvN f x).length = 5 := rfl
/-- The indices that a node uses are among the first so many. -/
def UseA (kd a n : Int) : Prop := (two kd || one1 kd) = true → 0 ≤ a ∧ a < n
def UseB (kd b n : Int) : Prop := two kd = true → 0 ≤ b ∧ b < n
theorem okN_use {kd a b p q v : Int} (h : OkN kd a b p q v) : UseA kd a v ∧ UseB kd b v := by
  unfold UseA UseB two one1
  rcases h with ⟨rfl, _⟩ | ⟨h, h1, h2, h3, h4, _⟩ | ⟨h, h1, h2, _⟩ | ⟨h, _⟩
  · exact ⟨fun h => by simp at h, fun h => by simp at h⟩
  · exact ⟨fun _ => ⟨h1, h2⟩, fun _ => ⟨h3, h4⟩⟩
  · refine ⟨fun _ => ⟨h1, h2⟩, fun h2 => ?_⟩
    simp only [decide_eq_true_eq] at h2
    omega
  · refine ⟨fun h2 => ?_, fun h2 => ?_⟩
    · simp only [Bool.or_eq_true, decide_eq_true_eq] at h2
      omega
    · simp only [decide_eq_true_eq] at h2
      omega
theorem mvA_congr {f g : Int → Int} {kd a : Int} (h : (two kd || one1 kd) = true → f a = g a) : mvA f kd a = mvA g kd a := by
  unfold mvA
  cases hk : (two kd || one1 kd) with
  | true => exact h hk
  | false => rfl
theorem mvB_congr {f g : Int → Int} {kd b : Int} (h : two kd = true → f b = g b) : mvB f kd b = mvB g kd b := by
  unfold mvB
  cases hk : two kd with
  | true => exact h hk
  | false => rfl
def rowA (u : List (List Int)) (i : Nat) : Int := (List.getD u i []).tail.headD 0
theorem map_at {f : List Int → List Int} (u : List (List Int)) {i : Nat} (h : i < u.length) : (u.map f)[i]'(by simpa using h) = f (List.getD u i []) := by simp [List.getD, h]
theorem ok_at {u : List (List Int)} (h : OkFrom u 0) {i : Nat} (hi : i < u.length) : UseA ((List.getD u i []).headD 0) ((List.getD u i []).tail.headD 0) i ∧ UseB ((List.getD u i []).headD 0) ((List.getD u i []).tail.tail.headD 0) i :=
  okN_use (h i (by omega) hi)
/-! ### The reference -/
def fI (idx : List Int) (a : Int) : Int := IntKind.wrap .i16 (List.getD idx a.toNat 0)
theorem g75L {α : Type} (m : Nat) {kd a b p q : Int} {idx : List Int} (hA : UseA kd a idx.length) (hB : UseB kd b idx.length) (k : Int → Int → Option α) : g75 m kd a b p q idx k = k (mvA (fI idx) kd a) (mvB (fI idx) kd b) := by
  rw [g75_o]
  simp only [g95L, g96L]
  unfold UseA at hA
  unfold UseB at hB
  unfold mvA mvB fI
  cases h1 : one1 kd <;> cases h2 : two kd
  · rfl
  · rw [h2] at hA hB
    simp only [Bool.true_or, true_implies] at hA hB
    simp only [cond_true, cond_false, Bool.true_or]
    rw [if_pos hA, if_pos (by omega), if_pos hB, if_pos (by omega)]
  · rw [h1, h2] at hA
    simp only [Bool.or_true, true_implies] at hA
    simp only [cond_true, cond_false, Bool.or_true]
    rw [if_pos hA, if_pos (by omega)]
  · rw [h2] at hA hB
    simp only [Bool.true_or, true_implies] at hA hB
    simp only [cond_true, cond_false, Bool.true_or]
    rw [if_pos hA, if_pos (by omega), if_pos hB, if_pos (by omega)]
def idxJ (n1 n2 : Nat) : List Int := (List.range n2).map fun (i : Nat) => ((n1 + i : Nat) : Int)
theorem idxJ_length (n1 n2 : Nat) : (idxJ n1 n2).length = n2 := by simp [idxJ]
theorem idxJ_at (n1 : Nat) {n2 i : Nat} (h : i < n2) : (idxJ n1 n2)[i]'(by rw [idxJ_length]; exact h) = ((n1 + i : Nat) : Int) := by simp [idxJ]
theorem fI_J {n1 n2 : Nat} (hn : n1 + n2 ≤ 40) {a : Int} (h0 : 0 ≤ a) (h1 : a < n2) : fI (idxJ n1 n2) a = a + n1 := by
  have hl : a.toNat < (idxJ n1 n2).length := by rw [idxJ_length]; omega
  unfold fI
  rw [getD_at _ _ hl, idxJ_at n1 (by omega), wrap16 (by omega) (by omega)]; omega
def joined (t u : List (List Int)) : List (List Int) := t ++ u.map (mvN fun a => a + t.length)
theorem joined_length (t u : List (List Int)) : (joined t u).length = t.length + u.length := by simp [joined]
theorem app_take (t l : List (List Int)) {i : Nat} (h : i < l.length) : t ++ l.take i ++ [l[i]] = t ++ l.take (i + 1) := by rw [List.append_assoc, take_snoc l h]
open Classical in
theorem joinS {α : Type} (m a b : Nat) {t u : List (List Int)} (ht : RowN t) (hu : RowN u) (hm : 1048576 < m) (k : Int → List (List Int) → Option α) :
    g32 m 0 t.length a 0 u.length b t.length t u.length u k =
      if (1 ≤ t.length ∧ t.length ≤ 40) ∧ OkFrom t 0 then (if (1 ≤ u.length ∧ u.length ≤ 40) ∧ OkFrom u 0 then (if t.length + u.length ≤ 40 then k 0 (joined t u) else k 3 []) else k 1 []) else k 1 [] := by
  have h1 := ht.len
  have h2 := hu.len
  rw [g32_o, g42L m a ht (by omega)]
  by_cases ht0 : (1 ≤ t.length ∧ t.length ≤ 40) ∧ OkFrom t 0
  · rw [dT ht0, if_pos ht0, Bool.not_true, cond_false, g42L m b hu (by omega)]
    by_cases hu0 : (1 ≤ u.length ∧ u.length ≤ 40) ∧ OkFrom u 0
    · rw [dT hu0, if_pos hu0, Bool.not_true, cond_false, wrapI (by omega) (by omega)]
      by_cases hs : t.length + u.length ≤ 40
      · rw [dF (by omega), cond_false, if_pos hs]
        have hJ := idxJ_length t.length u.length
        have := loopR (fun m' i => g32l0 0 t.length a 0 u.length b t.length t u.length u
          (fun l196 =>
            if 0 + t.length ≤ t.length then
              let l197 : List (List Int) := List.take t.length (List.drop 0 t)
              if 0 + l197.length ≤ 67108864 then
                g32l2 (g75 m) 0 u.length b t.length t u.length u l196 (fun l242 => k (0 : Int) l242) m (0 : Int) l197
              else none
            else none) m' (i : Int) ((idxJ t.length u.length).take i)) (fun _ => k 0 (joined t u)) u.length (fun m' => ?_) (fun m' i hi h => ?_) u.length 0 m (by omega) (by omega)
        · simpa using this
        · rw [g32l0_s, dF (by omega), cond_false, if_pos (by omega)]
          dsimp only
          rw [List.drop_zero, List.take_of_length_le (l := t) (Nat.le_refl _), if_pos (by omega), List.take_of_length_le (l := idxJ t.length u.length) (by omega)]
          have hml : (u.map (mvN fun a => a + t.length)).length = u.length := by simp
          have := loopR (fun m' i => g32l2 (g75 m) 0 u.length b t.length t u.length u (idxJ t.length u.length) (fun l => k 0 l) m' (i : Int) (t ++ (u.map (mvN fun a => a + t.length)).take i)) (fun _ => k 0 (joined t u)) u.length
            (fun m' => ?_) (fun m' i hi h => ?_) u.length 0 m (by omega) (by omega)
          · simpa using this
          · rw [g32l2_s, dF (by omega), cond_false, List.take_of_length_le (by omega)]; rfl
          · obtain ⟨hA, hB⟩ := ok_at hu0.2 hi
            rw [g32l2_s, dT (by omega), cond_true, if_pos (cast_lt hi), Int.toNat_natCast, Nat.zero_add, if_pos hi]
            dsimp only
            rw [g75L m (fun h => by have := hA h; rw [hJ]; omega) (fun h => by have := hB h; rw [hJ]; omega), if_pos (by rw [List.length_append, List.length_take]; omega), wrapS (by omega),
              mvA_congr (g := fun a => a + t.length) (fun h => fI_J hs (hA h).1 (by have := (hA h).2; omega)), mvB_congr (g := fun a => a + t.length) (fun h => fI_J hs (hB h).1 (by have := (hB h).2; omega))]
            have e : [(List.getD u i []).headD 0, mvA (fun a => a + t.length) ((List.getD u i []).headD 0) ((List.getD u i []).tail.headD 0), mvB (fun a => a + t.length) ((List.getD u i []).headD 0) ((List.getD u i []).tail.tail.headD 0),
                (List.getD u i []).tail.tail.tail.headD 0, (List.getD u i []).tail.tail.tail.tail.headD 0] = (u.map (mvN fun a => a + t.length))[i]'(by simpa using hi) := (map_at (f := mvN fun a => a + t.length) u hi).symm
            rw [e, app_take _ _ (by simpa using hi)]
            exact h
        · rw [g32l0_s, dT (by omega), cond_true, if_pos (by rw [List.length_take]; omega), wrapI (x := ((t.length : Nat) : Int) + (i : Int)) (by omega) (by omega), show ((t.length : Nat) : Int) + (i : Int) = ((t.length + i : Nat) : Int) by omega, wrapS (by omega),
            ← idxJ_at t.length hi, take_snoc _ (by rw [hJ]; exact hi)]
          exact h
      · rw [dT (by omega), cond_true, if_neg hs]
    · rw [dF hu0, if_neg hu0]; rfl
  · rw [dF ht0, if_neg ht0]; rfl
/-! ### The program -/
theorem g77L {α : Type} (m lo len cap n : Nat) (u : List (List Int)) (kd a b p q : Int) (k : Int → Int → Option α) :
    g77 m kd a b p q lo len cap n u k = k (mvA (fun x => IntKind.wrap .i16 (x + IntKind.wrap .i16 len)) kd a) (mvB (fun x => IntKind.wrap .i16 (x + IntKind.wrap .i16 len)) kd b) := by
  rw [g77_o, g43L]
  simp only [g78_o]
  unfold mvA mvB
  cases two kd || one1 kd <;> cases two kd <;> rfl
open Classical in
theorem joinI {α : Type} (m a b : Nat) {t u : List (List Int)} (ht : RowN t) (hu : RowN u) (hm : 1048576 < m) (k1 : Int → Option α) (k : List (List Int) → Option α) :
    g33 m 0 t.length a 0 u.length b t.length t u.length u k1 k =
      if (1 ≤ t.length ∧ t.length ≤ 40) ∧ OkFrom t 0 then (if (1 ≤ u.length ∧ u.length ≤ 40) ∧ OkFrom u 0 then (if t.length + u.length ≤ 40 then k (joined t u) else k1 3) else k1 1) else k1 1 := by
  have h1 := ht.len
  have h2 := hu.len
  rw [g33_o, g17L m a ht (by omega)]
  by_cases ht0 : (1 ≤ t.length ∧ t.length ≤ 40) ∧ OkFrom t 0
  · rw [dT ht0, if_pos ht0, Bool.not_true, cond_false, g17L m b hu (by omega)]
    by_cases hu0 : (1 ≤ u.length ∧ u.length ≤ 40) ∧ OkFrom u 0
    · rw [dT hu0, if_pos hu0, Bool.not_true, cond_false, wrapI (by omega) (by omega)]
      by_cases hs : t.length + u.length ≤ 40
      · rw [dF (by omega), cond_false, if_pos hs, g76_o, if_pos (by omega)]
        dsimp only
        rw [List.drop_zero, List.take_of_length_le (l := t) (Nat.le_refl _), if_pos (by omega)]
        have hml : (u.map (mvN fun a => a + t.length)).length = u.length := by simp
        have := loopR (fun m' i => g33l0 (g77 m) 0 u.length b ((u.length : Nat) : Int) t.length t u.length u 0 t.length a (fun l => k l) m' (i : Int) (t ++ (u.map (mvN fun a => a + t.length)).take i)) (fun _ => k (joined t u)) u.length
          (fun m' => ?_) (fun m' i hi h => ?_) u.length 0 m (by omega) (by omega)
        · simpa using this
        · rw [g33l0_s, dF (by omega), cond_false, List.take_of_length_le (by omega)]; rfl
        · obtain ⟨hA, hB⟩ := ok_at hu0.2 hi
          rw [g33l0_s, dT (by omega), cond_true, if_pos (cast_lt hi), Int.toNat_natCast, Nat.zero_add, if_pos hi]
          dsimp only
          rw [g77L, if_pos (by rw [List.length_append, List.length_take]; omega), wrapS (by omega), wrap16 (x := ((t.length : Nat) : Int)) (by omega) (by omega),
            mvA_congr (g := fun a => a + t.length) (fun h => wrap16 (by have := hA h; omega) (by have := hA h; omega)), mvB_congr (g := fun a => a + t.length) (fun h => wrap16 (by have := hB h; omega) (by have := hB h; omega))]
          have e : [(List.getD u i []).headD 0, mvA (fun a => a + t.length) ((List.getD u i []).headD 0) ((List.getD u i []).tail.headD 0), mvB (fun a => a + t.length) ((List.getD u i []).headD 0) ((List.getD u i []).tail.tail.headD 0),
              (List.getD u i []).tail.tail.tail.headD 0, (List.getD u i []).tail.tail.tail.tail.headD 0] = (u.map (mvN fun a => a + t.length))[i]'(by simpa using hi) := (map_at (f := mvN fun a => a + t.length) u hi).symm
          rw [e, app_take _ _ (by simpa using hi)]
          exact h
      · rw [dT (by omega), cond_true, if_neg hs]
    · rw [dF hu0, if_neg hu0]; rfl
  · rw [dF ht0, if_neg ht0]; rfl
open Classical in
theorem join_res (m a b : Nat) {t u : List (List Int)} (ht : RowN t) (hu : RowN u) (hm : 1048576 < m) :
    (∃ x, (∀ {α : Type} (k : Int → List (List Int) → Option α), g32 m 0 t.length a 0 u.length b t.length t u.length u k = k x []) ∧
      (∀ {α : Type} (k1 : Int → Option α) (k : List (List Int) → Option α), g33 m 0 t.length a 0 u.length b t.length t u.length u k1 k = k1 x)) ∨
    (∃ l, l.length ≤ 1000 ∧ (∀ {α : Type} (k : Int → List (List Int) → Option α), g32 m 0 t.length a 0 u.length b t.length t u.length u k = k 0 l) ∧
      (∀ {α : Type} (k1 : Int → Option α) (k : List (List Int) → Option α), g33 m 0 t.length a 0 u.length b t.length t u.length u k1 k = k l)) := by
  by_cases ht0 : (1 ≤ t.length ∧ t.length ≤ 40) ∧ OkFrom t 0
  · by_cases hu0 : (1 ≤ u.length ∧ u.length ≤ 40) ∧ OkFrom u 0
    · by_cases hs : t.length + u.length ≤ 40
      · exact .inr ⟨joined t u, by rw [joined_length]; omega, fun k => by rw [joinS m a b ht hu hm, if_pos ht0, if_pos hu0, if_pos hs], fun k1 k => by rw [joinI m a b ht hu hm, if_pos ht0, if_pos hu0, if_pos hs]⟩
      · exact .inl ⟨3, fun k => by rw [joinS m a b ht hu hm, if_pos ht0, if_pos hu0, if_neg hs], fun k1 k => by rw [joinI m a b ht hu hm, if_pos ht0, if_pos hu0, if_neg hs]⟩
    · exact .inl ⟨1, fun k => by rw [joinS m a b ht hu hm, if_pos ht0, if_neg hu0], fun k1 k => by rw [joinI m a b ht hu hm, if_pos ht0, if_neg hu0]⟩
  · exact .inl ⟨1, fun k => by rw [joinS m a b ht hu hm, if_neg ht0], fun k1 k => by rw [joinI m a b ht hu hm, if_neg ht0]⟩
open Classical in
theorem law8 {α : Type} (m cap cap' : Nat) {u v : List (List Int)} (h5 : EK.Ws (.rc [.i8, .i16, .i16, .i64, .i64]) u) (h5' : EK.Ws (.rc [.i8, .i16, .i16, .i64, .i64]) v) (hu : u.length ≤ 9223372036854775807) (hv : v.length ≤ 9223372036854775807) (hm : 1048576 < m) (k : Bool → Option α) :
    g8 m 0 u.length cap 0 v.length cap' u.length u v.length v k = k true := by
  rw [g8_o, show (1048576 : Int) = ((1048576 : Nat) : Int) from rfl, g11L m 0 cap u (Nat.le_refl _) hu]
  by_cases hul : u.length ≤ 1048576
  · rw [if_pos hul, dF (by omega), cond_false, g11L m 0 cap' v (by omega) hv]
    by_cases hvl : v.length ≤ 1048576 - u.length
    · have hU := rowN_of h5 hul
      have hV := rowN_of h5' (show v.length ≤ 1048576 by omega)
      have hm1 : u.length < m := by omega
      have hm2 : v.length < m := by omega
      have m0 : 0 < m := by omega
      have hv1 : v.length ≤ 1048576 := by omega
      rw [if_pos hvl, dF (by omega), cond_false, g13L m cap hU.toRow5 hm1, g13L m cap' hV.toRow5 hm2]
      rcases join_res m u.length v.length hU hV hm with ⟨x, e1, e2⟩ | ⟨l, hl, e1, e2⟩
      · rw [e1, g13L m cap hU.toRow5 hm1, g13L m cap' hV.toRow5 hm2, e2, g15L0 m m0, Bool.not_true, cond_false, bne_self_eq_false, cond_false, g13L m cap hU.toRow5 hm1, g15v1T m _ _ _ _ hul hm, Bool.not_true, cond_false,
          g13L m cap' hV.toRow5 hm2, g15v1T m _ _ _ _ hv1 hm, Bool.not_true, cond_false, g29L m _ _ rfl hul hm (by omega) (by omega), g29L m _ _ rfl hv1 hm (by omega) (by omega), dF (by omega), cond_false,
          g15L0 m m0, Bool.not_true, cond_false, cond_false, g29v1L m m0, g34L m m0, g13L m cap hU.toRow5 hm1, g13L m cap' hV.toRow5 hm2, e2, g15L0 m m0, Bool.not_true, cond_false, bne_self_eq_false, cond_false, g34L m m0]
      · rw [e1, g13L m cap hU.toRow5 hm1, g13L m cap' hV.toRow5 hm2, e2, g15v2T m _ (by omega) hm, Bool.not_true, cond_false, bne_self_eq_false, cond_false, g13L m cap hU.toRow5 hm1, g15v1T m _ _ _ _ hul hm, Bool.not_true, cond_false,
          g13L m cap' hV.toRow5 hm2, g15v1T m _ _ _ _ hv1 hm, Bool.not_true, cond_false, g29L m _ _ rfl hul hm (by omega) (by omega), g29L m _ _ rfl hv1 hm (by omega) (by omega), dF (by omega), cond_false,
          g15v2T m _ (by omega) hm, Bool.not_true, cond_false, cond_false, g29v2L m (by omega) hm (by omega) (by omega), g34v1L m _ (by omega) hm (by omega) (by omega), dF (by omega), cond_false, bne_self_eq_false, cond_false,
          g13L m cap hU.toRow5 hm1, g13L m cap' hV.toRow5 hm2, e2, g15v2T m _ (by omega) hm, Bool.not_true, cond_false, cond_false, g34v1L m _ (by omega) hm (by omega) (by omega), dF (by omega), cond_false, bne_self_eq_false, cond_false]
    · rw [if_neg hvl, dT (by omega), cond_true]
  · rw [if_neg hul, dT (by omega), cond_true]
def ap8 : List AP := [.sl (.rc [.i8, .i16, .i16, .i64, .i64]), .sl (.rc [.i8, .i16, .i16, .i64, .i64])]
theorem law8m (m : Nat) (hm : 1048576 < m) (ls : List Lf) (hw : WA ap8 ls) : g8K (g8 m) ls (fun v _ _ => saysTrue v) = some () := by
  obtain ⟨⟨a1, a2, a3, a4, a5, a6⟩, ⟨b1, b2, b3, b4, b5, b6⟩, _⟩ := hw
  rw [maxLen_eq] at a4 b4
  unfold g8K
  have e0 : (lf ls 0).nat = 0 := a1
  have e3 : (lf ls 3).nat = 0 := b1
  have e1 : (lf ls 1).nat = ((lf ls 7).lst (.rc [.i8, .i16, .i16, .i64, .i64])).length := a5.symm
  have e4 : (lf ls 4).nat = ((lf ls 9).lst (.rc [.i8, .i16, .i16, .i64, .i64])).length := b5.symm
  have e6 : (lf ls 6).nat = (lf ls 1).nat := a2
  have e8 : (lf ls 8).nat = (lf ls 4).nat := b2
  have c1 : (lf ls 1).nat ≤ (lf ls 2).nat := a3
  have c2 : (lf ls 2).nat ≤ 9223372036854775807 := a4
  have c3 : (lf ls 4).nat ≤ (lf ls 5).nat := b3
  have c4 : (lf ls 5).nat ≤ 9223372036854775807 := b4
  have w1 : EK.Ws (.rc [.i8, .i16, .i16, .i64, .i64]) ((lf ls 7).lst (.rc [.i8, .i16, .i16, .i64, .i64])) := a6
  have w2 : EK.Ws (.rc [.i8, .i16, .i16, .i64, .i64]) ((lf ls 9).lst (.rc [.i8, .i16, .i16, .i64, .i64])) := b6
  rw [e6, e8, e0, e3, e1, e4]
  exact law8 m _ _ w1 w2 (by omega) (by omega) hm _
theorem law8' (ls : List Lf) (hw : WA ap8 ls) : g8K (g8 1048577) ls (fun v _ _ => saysTrue v) = some () := law8m 1048577 (by omega) ls hw
end Go.Proofs.Ytobejeiffgehfaa.Sx
