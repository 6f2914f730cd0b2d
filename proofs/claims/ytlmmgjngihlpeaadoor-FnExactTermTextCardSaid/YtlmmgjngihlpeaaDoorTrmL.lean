import Derived.Test.YtlmmgjngihlpeaaDoorTrmW
namespace Go.Proofs.YtlmmgjngihlpeaaDoor.Sx
open Go
set_option linter.unusedVariables false
set_option linter.unusedSimpArgs false
set_option maxRecDepth 100000
abbrev wordsW : List ByteArray := [(⟨#[]⟩ : ByteArray), (⟨#[114, 97, 116, 105, 111]⟩ : ByteArray), (⟨#[115, 117, 109]⟩ : ByteArray), (⟨#[100, 105, 102, 102]⟩ : ByteArray), (⟨#[112, 114, 111, 100, 117, 99, 116]⟩ : ByteArray), (⟨#[113, 117, 111, 116, 105, 101, 110, 116]⟩ : ByteArray), (⟨#[110, 101, 103]⟩ : ByteArray), (⟨#[97, 98, 115]⟩ : ByteArray), (⟨#[109, 105, 110]⟩ : ByteArray), (⟨#[109, 97, 120]⟩ : ByteArray), (⟨#[114, 111, 111, 116]⟩ : ByteArray), (⟨#[112, 105]⟩ : ByteArray), (⟨#[101, 117, 108, 101, 114]⟩ : ByteArray)]
abbrev spB : ByteArray := ⟨#[32]⟩
abbrev nlB : ByteArray := ⟨#[10]⟩
def wordB (kd : Int) : ByteArray := List.getD wordsW kd.toNat ⟨#[]⟩
def fmtI (n : Int) : ByteArray := bytesS (cond (decide (n < 0)) (45 :: decL n.natAbs) (decL n.natAbs))
theorem fmtI_nat (n : Nat) : fmtI (n : Int) = bytesS (decL n) := by
  unfold fmtI; rw [dF (by omega)]; rfl
theorem fmtI_neg {n : Nat} (h : 0 < n) : fmtI (-(n : Int)) = bytesS (45 :: decL n) := by
  unfold fmtI; rw [dT (by omega), Int.natAbs_neg]; rfl
theorem fmtI_size {n : Int} (h1 : -9223372036854775808 ≤ n) (h2 : n ≤ 9223372036854775807) : (fmtI n).size ≤ 20 := by
  have hd : ndig n.natAbs ≤ 19 := ndig_le (by decide) (by omega)
  unfold fmtI
  rw [bytesS_len]
  cases decide (n < 0)
  · simp only [cond_false, decL_len]; omega
  · simp only [cond_true, List.length_cons, decL_len]; omega
theorem wordB_size (kd : Int) : (wordB kd).size ≤ 8 := by
  have h : ∀ i : Nat, (List.getD wordsW i ⟨#[]⟩).size ≤ 8 := by
    intro i
    by_cases hi : i < 13
    · have : ∀ j : Fin 13, (List.getD wordsW j.1 ⟨#[]⟩).size ≤ 8 := by decide
      exact this ⟨i, hi⟩
    · rw [List.getD, List.getElem?_eq_none (by show 13 ≤ i; omega)]; exact Nat.zero_le _
  exact h _
theorem catL {α : Type} {x y : Option α} (a b : ByteArray) (ha : a.size ≤ 1000) (hb : b.size ≤ 1000) : (if a.size + b.size ≤ 9223372036854775807 then x else y) = x := if_pos (by omega)
def lineX (kd a b p q : Int) : ByteArray :=
  cond (decide (kd = 1)) (wordB kd ++ (spB ++ (fmtI p ++ (spB ++ fmtI q)))) (cond (two kd) (wordB kd ++ (spB ++ (fmtI a ++ (spB ++ fmtI b)))) (cond (one1 kd) (wordB kd ++ (spB ++ fmtI a)) (wordB kd)))
theorem appA (a b c : ByteArray) : (a ++ b) ++ c = a ++ (b ++ c) := by
  apply bytes_ext
  simp
theorem fmtB {m : Nat} (hm : 4 ≤ m) {α : Type} {n : Int} (h1 : -9223372036854775808 ≤ n) (h2 : n ≤ 9223372036854775807) (k : ByteArray → Option α) : g114 m n 10 k = k (fmtI n) := by
  by_cases h : 0 ≤ n
  · obtain ⟨j, rfl⟩ := Int.eq_ofNat_of_zero_le h
    rw [fmtPos m hm (by omega), fmtI_nat]
  · obtain ⟨j, rfl⟩ : ∃ j : Nat, n = -(j : Int) := ⟨n.natAbs, by omega⟩
    rw [fmtNeg m hm (by omega) (by omega), fmtI_neg (by omega)]
theorem itoaB {m : Nat} (hm : 4 ≤ m) {α : Type} {n : Int} (h1 : -9223372036854775808 ≤ n) (h2 : n ≤ 9223372036854775807) (k : ByteArray → Option α) : g43 m n k = k (fmtI n) := by
  rw [g43_o, g84_o, fmtB hm h1 h2]
theorem decB {m : Nat} (hm : 20 ≤ m) {α : Type} {n : Int} (h1 : 0 ≤ n) (h2 : n ≤ 1000000000) (k : ByteArray → Option α) : g86 m n k = k (fmtI n) := by
  obtain ⟨j, rfl⟩ := Int.eq_ofNat_of_zero_le h1
  obtain ⟨f, rfl⟩ : ∃ f, m = f + 1 := ⟨m - 1, by omega⟩
  rw [specDecimal f j (by omega) (Nat.lt_of_lt_of_le (show j < 10 ^ 10 by omega) (Nat.pow_le_pow_right (by decide) (by omega))), fmtI_nat]
theorem sgnB {m : Nat} (hm : 20 ≤ m) {α : Type} {n : Int} (h1 : -1000000000 ≤ n) (h2 : n ≤ 1000000000) (k : ByteArray → Option α) : g112 m n k = k (fmtI n) := by
  rw [g112_o]
  by_cases h : n < 0
  · rw [dT h, cond_true, wrapI (by omega) (by omega), decB hm (by omega) (by omega)]
    have hs := fmtI_size (n := 0 - n) (by omega) (by omega)
    rw [catL _ _ (by decide) (by omega)]
    congr 1
    obtain ⟨j, rfl⟩ : ∃ j : Nat, n = -(j : Int) := ⟨n.natAbs, by omega⟩
    rw [fmtI_neg (by omega), show (0 : Int) - -(j : Int) = (j : Int) by omega, fmtI_nat]
    apply bytes_ext
    simp [bytesS_data]
  · rw [dF h, cond_false, decB hm (by omega) h2]
theorem wordsL {α : Type} (m : Nat) (k : List ByteArray → Option α) : g103 m k = k wordsW := rfl
theorem kwL {α : Type} (m : Nat) {kd : Int} (h : 0 ≤ kd ∧ kd < 13) (k : ByteArray → Option α) : g82 m kd k = k (wordB kd) := by
  show (if 0 ≤ kd ∧ kd < ((13 : Nat) : Int) then (if (0 + kd.toNat) < 13 then k (List.getD wordsW (0 + kd.toNat) ⟨#[]⟩) else none) else none) = _
  rw [if_pos (by omega), if_pos (by omega), Nat.zero_add]; rfl
theorem okN_cases {kd a b p q v : Int} (h : OkN kd a b p q v) (hv : v ≤ 2000) : (0 ≤ kd ∧ kd < 13) ∧ -1000000000 ≤ p ∧ p ≤ 1000000000 ∧ 0 ≤ q ∧ q ≤ 1000000000 ∧ 0 ≤ a ∧ a ≤ 2000 ∧ 0 ≤ b ∧ b ≤ 2000 := by
  rcases h with h | h | h | h <;> omega
theorem specLine {α : Type} {m : Nat} (hm : 20 ≤ m) {i n : Nat} (hi : i < n) {u : List (List Int)} {kd a b p q v : Int} (hx : List.getD u i [] = [kd, a, b, p, q]) (hok : OkN kd a b p q v) (hv : v ≤ 2000) (k : ByteArray → Option α) :
    g78 m i n u k = k (lineX kd a b p q) := by
  obtain ⟨hk, p1, p2, q1, q2, a1, a2, b1, b2⟩ := okN_cases hok hv
  have hfp := fmtI_size (n := p) (by omega) (by omega)
  have hfq := fmtI_size (n := q) (by omega) (by omega)
  have hfa := fmtI_size (n := a) (by omega) (by omega)
  have hfb := fmtI_size (n := b) (by omega) (by omega)
  have hwd := wordB_size kd
  have hsp : (⟨#[32]⟩ : ByteArray).size = 1 := rfl
  rw [g78_o, wordsL]
  dsimp only
  simp only [hx, List.headD_cons, List.tail_cons, if_pos hi]
  rw [if_pos (show 0 ≤ kd ∧ kd < ((13 : Nat) : Int) by omega), if_pos (show 0 + kd.toNat < 13 by omega), Nat.zero_add]
  have hw : List.getD wordsW kd.toNat ⟨#[]⟩ = wordB kd := rfl
  rw [hw]
  unfold lineX
  by_cases h1 : kd = 1
  · rw [show (kd == (1 : Int)) = true by simp [h1], cond_true, dT h1, cond_true, sgnB hm p1 p2, catL _ _ (by rw [hsp]; omega) (by omega), catL _ _ (by simp only [ByteArray.size_append, hsp]; omega) (by rw [hsp]; omega), decB hm q1 q2,
      catL _ _ (by simp only [ByteArray.size_append, hsp]; omega) (by omega), catL _ _ (by omega) (by simp only [ByteArray.size_append, hsp]; omega)]
    congr 1
    simp only [appA]
  · rw [show (kd == (1 : Int)) = false by simp [h1], cond_false, dF h1, cond_false, g105L]
    cases ho : one1 kd with
    | true =>
      have ht : two kd = false := dF (by have := of_decide_eq_true ho; omega)
      rw [cond_true, wrapI (by omega) (by omega), decB hm a1 (by omega), catL _ _ (by rw [hsp]; omega) (by omega), catL _ _ (by omega) (by simp only [ByteArray.size_append, hsp]; omega), ht]
      rfl
    | false =>
      rw [cond_false, g106L]
      cases ht : two kd with
      | true =>
        rw [cond_true, wrapI (by omega) (by omega), decB hm a1 (by omega), catL _ _ (by rw [hsp]; omega) (by omega), catL _ _ (by simp only [ByteArray.size_append, hsp]; omega) (by rw [hsp]; omega), wrapI (by omega) (by omega), decB hm b1 (by omega),
          catL _ _ (by simp only [ByteArray.size_append, hsp]; omega) (by omega), catL _ _ (by omega) (by simp only [ByteArray.size_append, hsp]; omega)]
        congr 1
        simp only [appA, cond_true]
      | false => rfl
theorem implLine {α : Type} {m : Nat} (hm : 4 ≤ m) {kd a b p q v : Int} (hok : OkN kd a b p q v) (hv : v ≤ 2000) (k : ByteArray → Option α) :
    g42 m kd p q (fmtI a) (fmtI b) k = k (lineX kd a b p q) := by
  obtain ⟨hk, p1, p2, q1, q2, a1, a2, b1, b2⟩ := okN_cases hok hv
  have hfp := fmtI_size (n := p) (by omega) (by omega)
  have hfq := fmtI_size (n := q) (by omega) (by omega)
  have hfa := fmtI_size (n := a) (by omega) (by omega)
  have hfb := fmtI_size (n := b) (by omega) (by omega)
  have hwd := wordB_size kd
  have hsp : (⟨#[32]⟩ : ByteArray).size = 1 := rfl
  rw [g42_o, g74L, kwL m hk]
  dsimp only
  unfold lineX
  by_cases h1 : kd = 1
  · rw [dT h1, cond_true, cond_true, catL _ _ (by omega) (by rw [hsp]; omega), g83_o, fmtB hm (by omega) (by omega), catL _ _ (by simp only [ByteArray.size_append, hsp]; omega) (by omega),
      catL _ _ (by simp only [ByteArray.size_append, hsp]; omega) (by rw [hsp]; omega), g83_o, fmtB hm (by omega) (by omega), catL _ _ (by simp only [ByteArray.size_append, hsp]; omega) (by omega)]
    congr 1
    simp only [appA]
  · rw [dF h1, cond_false, cond_false]
    cases ht : two kd with
    | true =>
      rw [Bool.true_or, cond_true, catL _ _ (by rw [hsp]; omega) (by omega), catL _ _ (by omega) (by simp only [ByteArray.size_append, hsp]; omega), cond_true, catL _ _ (by rw [hsp]; omega) (by omega), catL _ _ (by simp only [ByteArray.size_append, hsp]; omega) (by simp only [ByteArray.size_append, hsp]; omega)]
      congr 1
      simp only [appA, cond_true]
    | false =>
      cases ho : one1 kd with
      | true =>
        rw [Bool.false_or, cond_true, catL _ _ (by rw [hsp]; omega) (by omega), catL _ _ (by omega) (by simp only [ByteArray.size_append, hsp]; omega), cond_false]
        rfl
      | false => rfl
def lnX (x : List Int) : ByteArray := lineX (x.headD 0) (x.tail.headD 0) (x.tail.tail.headD 0) (x.tail.tail.tail.headD 0) (x.tail.tail.tail.tail.headD 0) ++ nlB
def txtX (u : List (List Int)) : ByteArray := u.foldl (fun s x => s ++ lnX x) ⟨#[]⟩
theorem lineX_size {kd a b p q v : Int} (h : OkN kd a b p q v) (hv : v ≤ 2000) : (lineX kd a b p q).size ≤ 50 := by
  obtain ⟨hk, p1, p2, q1, q2, a1, a2, b1, b2⟩ := okN_cases h hv
  have hfp := fmtI_size (n := p) (by omega) (by omega)
  have hfq := fmtI_size (n := q) (by omega) (by omega)
  have hfa := fmtI_size (n := a) (by omega) (by omega)
  have hfb := fmtI_size (n := b) (by omega) (by omega)
  have hwd := wordB_size kd
  have hsp : (⟨#[32]⟩ : ByteArray).size = 1 := rfl
  unfold lineX
  cases decide (kd = 1)
  · cases two kd
    · cases one1 kd
      · simp only [cond_false]; omega
      · simp only [cond_false, cond_true, ByteArray.size_append, hsp]; omega
    · simp only [cond_false, cond_true, ByteArray.size_append, hsp]; omega
  · simp only [cond_true, ByteArray.size_append, hsp]; omega
theorem okAt {u : List (List Int)} (h : OkFrom u 0) (hl : u.length ≤ 40) {x : List Int} (hx : x ∈ u) : ∃ i, i < u.length ∧ List.getD u i [] = x ∧ OkN (x.headD 0) (x.tail.headD 0) (x.tail.tail.headD 0) (x.tail.tail.tail.headD 0) (x.tail.tail.tail.tail.headD 0) (i : Int) := by
  obtain ⟨i, hi, rfl⟩ := List.mem_iff_getElem.1 hx
  have := h i (Nat.zero_le _) hi
  rw [getD_at u [] hi] at this
  exact ⟨i, hi, getD_at u [] hi, this⟩
theorem lnX_size {u : List (List Int)} (h : OkFrom u 0) (hl : u.length ≤ 40) {x : List Int} (hx : x ∈ u) : (lnX x).size ≤ 51 := by
  obtain ⟨i, hi, _, h1⟩ := okAt h hl hx
  have := lineX_size h1 (by omega)
  have hn : nlB.size = 1 := rfl
  unfold lnX
  rw [ByteArray.size_append, hn]; omega
theorem txt_take {u : List (List Int)} (h : OkFrom u 0) (hl : u.length ≤ 40) : ∀ i, i ≤ u.length → (txtX (u.take i)).size ≤ 51 * i
  | 0, _ => Nat.zero_le _
  | i + 1, hi => by
    have ih := txt_take h hl i (by omega)
    have hx := lnX_size h hl (List.getElem_mem (show i < u.length by omega))
    unfold txtX at *
    rw [List.take_succ_eq_append_getElem (by omega), List.foldl_append]
    show (_ ++ lnX u[i]).size ≤ _
    rw [ByteArray.size_append]; omega
theorem txt_step {u : List (List Int)} {i : Nat} (hi : i < u.length) : txtX (u.take (i + 1)) = txtX (u.take i) ++ lnX u[i] := by
  unfold txtX
  rw [List.take_succ_eq_append_getElem hi, List.foldl_append]; rfl
theorem lineT_ok {m : Nat} (hm : 4 ≤ m) {u : List (List Int)} (hu : RowN u) (h : OkFrom u 0) (hl : u.length ≤ 40) {x : List Int} (hx : x ∈ u) : lineT m x = some (lnX x) := by
  obtain ⟨i, hi, _, h1⟩ := okAt h hl hx
  obtain ⟨kd, a, b, p, q, rfl, ha, hb, _⟩ := hu.parts x hx
  unfold lineT lnX
  simp only [List.getD_cons_zero, List.getD_cons_succ, List.headD_cons, List.tail_cons] at h1 ⊢
  rw [itoaB hm (by omega) (by omega), Option.bind_some, itoaB hm (by omega) (by omega), Option.bind_some, implLine hm h1 (by omega)]; rfl
theorem tt_ok {m : Nat} (hm : 4 ≤ m) {u : List (List Int)} (hu : RowN u) (h : (1 ≤ u.length ∧ u.length ≤ 40) ∧ OkFrom u 0) : TTok m u ∧ textT m u = txtX u := by
  obtain ⟨⟨h1, h2⟩, h3⟩ := h
  refine ⟨⟨fun e => by rw [e] at h1; exact absurd h1 (by decide), h2, fun x hx => ?_, fun x hx => ⟨_, lineT_ok hm hu h3 h2 hx, by have := lnX_size h3 h2 hx; omega⟩⟩, ?_⟩
  · obtain ⟨kd, a, b, p, q, rfl, ha, hb, _⟩ := hu.parts x hx
    exact ⟨wrapI (show -9223372036854775808 ≤ a by omega) (show a ≤ 9223372036854775807 by omega), wrapI (show -9223372036854775808 ≤ b by omega) (show b ≤ 9223372036854775807 by omega)⟩
  · unfold textT txtX
    have : ∀ (l : List (List Int)) (s : ByteArray), (∀ x ∈ l, x ∈ u) → l.foldl (fun s x => s ++ (lineT m x).getD ⟨#[]⟩) s = l.foldl (fun s x => s ++ lnX x) s := by
      intro l
      induction l with
      | nil => intro s _; rfl
      | cons x l ih =>
        intro s hx
        simp only [List.foldl_cons]
        rw [lineT_ok hm hu h3 h2 (hx x (by simp)), Option.getD_some, ih _ fun y hy => hx y (by simp [hy])]
    exact this u _ fun x hx => hx
theorem specTxt_loop {α : Type} {q : Nat} (hq : 20 ≤ q) (a cap : Nat) {u : List (List Int)} (hu : RowN u) (h : OkFrom u 0) (hl : u.length ≤ 40) (k : ByteArray → Option α) : ∀ (d i m : Nat), i + d = u.length → d < m →
    g38l0 (g78 q) 0 u.length cap u.length u k m (txtX (u.take i)) (i : Int) = k (txtX u)
  | 0, i, m, hi, hm => by
    obtain ⟨m, rfl⟩ : ∃ n, m = n + 1 := ⟨m - 1, by omega⟩
    rw [g38l0_s, dF (by omega), cond_false, List.take_of_length_le (by omega)]
  | d + 1, i, m, hi, hm => by
    obtain ⟨m, rfl⟩ : ∃ n, m = n + 1 := ⟨m - 1, by omega⟩
    have h1 : i < u.length := by omega
    obtain ⟨kd, xa, xb, p, q', hx, _⟩ := hu.parts _ (List.getElem_mem h1)
    have hg : List.getD u i [] = [kd, xa, xb, p, q'] := by rw [getD_at u [] h1, hx]
    have hok := h i (Nat.zero_le _) h1
    rw [hg] at hok
    have hs := lnX_size h hl (List.getElem_mem h1)
    have ht := txt_take h hl i (by omega)
    have hsz := lineX_size hok (by omega)
    have hn : (⟨#[10]⟩ : ByteArray).size = 1 := rfl
    have hline : lnX u[i] = lineX kd xa xb p q' ++ nlB := by rw [hx]; rfl
    rw [hline] at hs
    rw [g38l0_s, dT (show (i : Int) < ((u.length : Nat) : Int) by omega), cond_true, if_pos ⟨by omega, by omega⟩, Int.toNat_natCast, Nat.zero_add, specLine hq h1 hg hok (by omega)]
    dsimp only
    simp only [List.headD_cons, List.tail_cons] at hsz
    rw [if_pos (by rw [hn]; omega), if_pos (by rw [ByteArray.size_append, hn]; omega), wrapS (by omega), ← hline, ← txt_step h1]
    exact specTxt_loop hq a cap hu h hl k d (i + 1) m (by omega) (by omega)
open Classical in
theorem specTT {α : Type} {m : Nat} (cap : Nat) {u : List (List Int)} (hu : RowN u) (hm : u.length < m) (hm2 : 20 ≤ m) (k : ByteArray → Option α) :
    g8 m 0 u.length cap u.length u k = k (if (1 ≤ u.length ∧ u.length ≤ 40) ∧ OkFrom u 0 then txtX u else ⟨#[]⟩) := by
  rw [g8_o, g37L m cap hu hm]
  by_cases h : (1 ≤ u.length ∧ u.length ≤ 40) ∧ OkFrom u 0
  · rw [decide_eq_true h, if_pos h, Bool.not_true, cond_false, g38_o]
    exact specTxt_loop hm2 0 cap hu h.2 h.1.2 _ u.length 0 m (by omega) hm
  · rw [decide_eq_false h, if_neg h]; rfl
open Classical in
theorem implTT {α : Type} {m : Nat} (cap : Nat) {u : List (List Int)} (hu : RowN u) (hm : u.length < m) (hm2 : 20 ≤ m) (k : ByteArray → Option α) :
    g10 m 0 u.length cap u.length u k = k (if (1 ≤ u.length ∧ u.length ≤ 40) ∧ OkFrom u 0 then txtX u else ⟨#[]⟩) := by
  unfold g10
  rw [g40L m cap hu hm]
  by_cases h : (1 ≤ u.length ∧ u.length ≤ 40) ∧ OkFrom u 0
  · obtain ⟨h1, h2⟩ := tt_ok (show 4 ≤ m by omega) hu h
    rw [decide_eq_true h, if_pos h]
    dsimp only
    rw [if_pos ⟨rfl, rfl, rfl, h1⟩, h2]
  · rw [decide_eq_false h, if_neg h]
theorem bytesEq_same' (s : ByteArray) : bytesEq s s = true := by unfold bytesEq; exact beq_self_eq_true _
theorem termTextLaw {α : Type} (m cap : Nat) {u : List (List Int)} (h5 : EK.Ws (.rc [.i8, .i16, .i16, .i64, .i64]) u) (hu : u.length ≤ 9223372036854775807) (hm : 1048576 < m) (k : Bool → Option α) :
    g3 m 0 u.length cap u.length u k = k true := by
  rw [g3_o, show (1048576 : Int) = ((1048576 : Nat) : Int) from rfl, g7L m 0 cap u (Nat.le_refl _) hu]
  by_cases hul : u.length ≤ 1048576
  · have hU := rowN_of h5 hul
    have hm1 : u.length < m := by omega
    rw [if_pos hul, dF (by omega), cond_false, g9L m cap hU.toRow5 hm1, specTT _ hU hm1 (by omega), g9L m cap hU.toRow5 hm1, implTT _ hU hm1 (by omega), bytesEq_same', Bool.not_true, cond_false,
      g9L m cap hU.toRow5 hm1, g11T m _ _ _ _ hul hm, Bool.not_true, cond_false]
  · rw [if_neg hul, dT (by omega), cond_true]
def apTT : List AP := [.sl (.rc [.i8, .i16, .i16, .i64, .i64])]
theorem termTextLawM (m : Nat) (hm : 1048576 < m) (ls : List Lf) (hw : WA apTT ls) : g3K (g3 m) ls (fun v _ _ => saysTrue v) = some () := by
  obtain ⟨⟨a1, a2, a3, a4, a5, a6⟩, _⟩ := hw
  rw [maxLen_eq] at a4
  unfold g3K
  have e0 : (lf ls 0).nat = 0 := a1
  have e1 : (lf ls 1).nat = ((lf ls 4).lst (.rc [.i8, .i16, .i16, .i64, .i64])).length := a5.symm
  have e3 : (lf ls 3).nat = (lf ls 1).nat := a2
  have c1 : (lf ls 1).nat ≤ (lf ls 2).nat := a3
  have c2 : (lf ls 2).nat ≤ 9223372036854775807 := a4
  have w1 : EK.Ws (.rc [.i8, .i16, .i16, .i64, .i64]) ((lf ls 4).lst (.rc [.i8, .i16, .i16, .i64, .i64])) := a6
  rw [e3, e0, e1]
  exact termTextLaw m _ w1 (by omega) hm _
theorem termTextLaw' (ls : List Lf) (hw : WA apTT ls) : g3K (g3 1048577) ls (fun v _ _ => saysTrue v) = some () := termTextLawM 1048577 (by omega) ls hw
end Go.Proofs.YtlmmgjngihlpeaaDoor.Sx
