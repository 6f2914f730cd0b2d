/- Plain laws: texts of streams, their first digits; StreamText, DigitsOf. Our own work. -/
import Derived.Test.YtbpljilgekneoaaStrC
namespace Go.Proofs.Ytbpljilgekneoaa.Sx
open Go
set_option linter.unusedVariables false
set_option linter.unusedSimpArgs false
set_option maxRecDepth 100000
def dch (d : Int) : Int := byteAt (⟨#[45, 48, 43]⟩ : ByteArray) (IntKind.wrap .i8 (d + (1 : Int))).toNat
theorem dch_ok {d : Int} (h : Dg d) : 0 ≤ IntKind.wrap .i8 (d + (1 : Int)) ∧ IntKind.wrap .i8 (d + (1 : Int)) < (⟨#[45, 48, 43]⟩ : ByteArray).size := by
  obtain ⟨h1, h2⟩ := h
  have hs : (⟨#[45, 48, 43]⟩ : ByteArray).size = 3 := by kernel_rfl
  rw [hs]
  obtain h | h | h : d = -1 ∨ d = 0 ∨ d = 1 := by omega
  all_goals (subst h; decide)
def txt (u : List Int) : ByteArray := bytesS (u.map dch)
theorem bytesS_size : ∀ (l : List Int) (s : ByteArray), (l.foldl (fun r n => r.push (UInt8.ofNat n.toNat)) s).size = s.size + l.length
  | [], s => by simp
  | a :: l, s => by
    rw [List.foldl_cons, bytesS_size l, List.length_cons, ByteArray.size_push]; omega
theorem txt_size (u : List Int) : (txt u).size = u.length := by
  unfold txt bytesS
  rw [bytesS_size]; simp
theorem dgs_at {u : List Int} (h : Dgs u) {i : Nat} (hi : i < u.length) : Dg (List.getD u i 0) := by rw [getD_at u 0 hi]; exact h _ (List.getElem_mem hi)
theorem g78L {α : Type} (m cap : Nat) {u : List Int} (hlen : u.length ≤ 1048576) (hd : Dgs u) (hm : 1048576 < m) (k : ByteArray → Option α) : g78 m 0 u.length cap u.length u k = k (txt u) := by
  rw [g78_o]
  have := loopR (fun m i => g78l0 0 u.length cap u.length u (fun l => k (bytesS l)) m (i : Int) ((u.map dch).take i)) (fun i => k (txt u)) u.length (fun m => ?_) (fun m i hi h => ?_) u.length 0 m (by omega) (by omega)
  · simpa using this
  · rw [g78l0_s, dF (by omega), cond_false, List.take_of_length_le (by simp)]; rfl
  · have hi' : i < (u.map dch).length := by simpa using hi
    rw [g78l0_s, dT (by omega), cond_true, if_pos (cast_lt hi), Int.toNat_natCast, Nat.zero_add, if_pos hi]
    dsimp only
    rw [if_pos (dch_ok (dgs_at hd hi)), if_pos (by rw [List.length_take]; omega), wrapS (by omega)]
    have e : byteAt (⟨#[45, 48, 43]⟩ : ByteArray) (IntKind.wrap .i8 (List.getD u i 0 + (1 : Int))).toNat = (u.map dch)[i] := getD_map dch u 0 hi
    rw [e, take_snoc _ hi']; exact h
theorem g79L {α : Type} (m cap : Nat) {u : List Int} (hlen : u.length ≤ 1048576) (hd : Dgs u) (hm : 1048576 < m) (k : ByteArray → Option α) : g79 m 0 u.length cap u.length u k = k (txt u) := by
  rw [g79_o, if_pos ⟨rfl, by omega, by omega⟩]
  have hml : (u.map dch).length = u.length := by simp
  have := loopR (fun m i => g79l0 0 u.length u.length 0 u.length cap ((u.length : Nat) : Int) u.length u u.length
    (fun l => if 0 + u.length ≤ u.length then k (bytesS (List.take u.length (List.drop 0 l))) else none) m (i : Int) ((u.map dch).take i ++ List.replicate ((u.map dch).length - i) 0)) (fun i => k (txt u)) u.length (fun m => ?_) (fun m i hi h => ?_) u.length 0 m (by omega) (by omega)
  · simpa using this
  · rw [g79l0_s, dF (by omega), cond_false, if_pos (by omega), List.drop_zero, hml, Nat.sub_self, List.replicate_zero, List.append_nil, List.take_of_length_le (l := u.map dch) (by omega), List.take_of_length_le (l := u.map dch) (by omega)]; rfl
  · have hi' : i < (u.map dch).length := by omega
    rw [g79l0_s, dT (by omega), cond_true, if_pos (cast_lt hi), Int.toNat_natCast, Nat.zero_add, if_pos hi]
    dsimp only
    rw [if_pos (dch_ok (dgs_at hd hi)), if_pos (cast_lt hi), if_pos hi, wrapS (by omega)]
    have e : byteAt (⟨#[45, 48, 43]⟩ : ByteArray) (IntKind.wrap .i8 (List.getD u i 0 + (1 : Int))).toNat = (u.map dch)[i] := getD_map dch u 0 hi
    rw [e, set_zero _ hi']; exact h
theorem bytesEq_self (s : ByteArray) : bytesEq s s = true := by unfold bytesEq; exact beq_self_eq_true _
theorem text_res (m a b : Nat) {u v : List Int} (hu : u.length ≤ 1048576) (hv : v.length ≤ 1048576) (hm : 1048576 < m) :
    ∃ s, (∀ {α : Type} (k : ByteArray → Option α), g42 m 0 u.length a 0 v.length b u.length u v.length v k = k s) ∧ (∀ {α : Type} (k : ByteArray → Option α), g43 m 0 u.length a 0 v.length b u.length u v.length v k = k s) := by
  cases hok : okS u v
  · exact ⟨_, fun k => by rw [g42_o, g76L m _ _ hu hv hm, hok]; rfl, fun k => by rw [g43_o, g41L m _ _ hu hv hm, hok]; rfl⟩
  · obtain ⟨c1, c2, c3, c4, c5⟩ := okS_pos hok
    have s1 : (⟨#[58]⟩ : ByteArray).size = 1 := by kernel_rfl
    refine ⟨txt u ++ (⟨#[58]⟩ : ByteArray) ++ txt v, fun k => ?_, fun k => ?_⟩
    · rw [g42_o, g76L m _ _ hu hv hm, hok, Bool.not_true, cond_false, g78L m _ hu c4 hm, if_pos (by rw [txt_size, s1]; omega)]
      dsimp only
      rw [g78L m _ hv c5 hm, if_pos (by rw [ByteArray.size_append, txt_size, txt_size, s1]; omega)]
    · rw [g43_o, g41L m _ _ hu hv hm, hok, Bool.not_true, cond_false, g79L m _ hu c4 hm, if_pos (by rw [txt_size, s1]; omega)]
      dsimp only
      rw [g79L m _ hv c5 hm, if_pos (by rw [ByteArray.size_append, txt_size, txt_size, s1]; omega)]
theorem law12 {α : Type} (m a3 b3 : Nat) {u1 u2 : List Int} (h1 : u1.length ≤ 9223372036854775807) (h2 : u2.length ≤ 9223372036854775807) (hm : 1048576 < m) (k : Bool → Option α) : g12 m 0 u1.length a3 0 u2.length b3 u1.length u1 u2.length u2 k = k true := by
  rw [g12_o, show (1048576 : Int) = ((1048576 : Nat) : Int) from rfl, g35L m 0 a3 0 b3 (Nat.le_refl _) h1 h2]
  by_cases hul : u1.length + u2.length ≤ 1048576
  · have q1 : u1.length ≤ 1048576 := by omega
    have q2 : u2.length ≤ 1048576 := by omega
    obtain ⟨s, e1, e2⟩ := text_res m u1.length u2.length q1 q2 hm
    rw [if_pos hul, dF (by omega), cond_false, g37L m _ _ q1 q2 hm, e1, g37L m _ _ q1 q2 hm, e2, bytesEq_self, Bool.not_true, cond_false, g37L m _ _ q1 q2 hm, g39T m _ _ _ _ q1 q2 hm, Bool.not_true, cond_false]
  · rw [if_neg hul, dT (by omega), cond_true]
theorem law12m (m : Nat) (hm : 1048576 < m) (ls : List Lf) (hw : WA ap11 ls) : g12K (g12 m) ls (fun v _ _ => saysTrue v) = some () := by
  obtain ⟨⟨⟨a1, a2, a3, a4, a5, a6⟩, ⟨b1, b2, b3, b4, b5, b6⟩, _⟩, _⟩ := hw
  rw [maxLen_eq] at a4 b4
  unfold g12K
  have e0 : (lf ls 0).nat = 0 := a1
  have e3 : (lf ls 3).nat = 0 := b1
  have e1 : (lf ls 1).nat = ((lf ls 7).lst (.int .i8)).length := a5.symm
  have e4 : (lf ls 4).nat = ((lf ls 9).lst (.int .i8)).length := b5.symm
  have e6 : (lf ls 6).nat = (lf ls 1).nat := a2
  have e8 : (lf ls 8).nat = (lf ls 4).nat := b2
  have x1 : (lf ls 1).nat ≤ 9223372036854775807 := Nat.le_trans a3 a4
  have x2 : (lf ls 4).nat ≤ 9223372036854775807 := Nat.le_trans b3 b4
  rw [e1] at x1
  rw [e4] at x2
  rw [e6, e8, e0, e3, e1, e4]
  exact law12 m _ _ x1 x2 hm _
theorem law12' (ls : List Lf) (hw : WA ap11 ls) : g12K (g12 1048577) ls (fun v _ _ => saysTrue v) = some () := law12m 1048577 (by omega) ls hw
/-! ### DigitsOf -/
def digs (u v : List Int) (n : Nat) : List Int := (List.range n).map (atS u v)
theorem digs_length (u v : List Int) (n : Nat) : (digs u v n).length = n := by simp [digs]
theorem digs_at (u v : List Int) {n i : Nat} (h : i < n) : (digs u v n)[i]'(by rw [digs_length]; exact h) = atS u v i := by simp [digs]
theorem digits_res (m a b : Nat) {u v : List Int} (hu : u.length ≤ 1048576) (hv : v.length ≤ 1048576) (hm : 1048576 < m) (p : Int) :
    (∃ x, (∀ {α : Type} (k : Int → List Int → Option α), g52 m 0 u.length a 0 v.length b p u.length u v.length v k = k x []) ∧
      (∀ {α : Type} (k1 : Int → Option α) (k : Nat → Nat → Nat → List Int → Option α), g53 m 0 u.length a 0 v.length b p u.length u v.length v k1 k = k1 x)) ∨
    (∃ n : Nat, n ≤ 400 ∧ (∀ {α : Type} (k : Int → List Int → Option α), g52 m 0 u.length a 0 v.length b p u.length u v.length v k = k 0 (digs u v n)) ∧
      (∀ {α : Type} (k1 : Int → Option α) (k : Nat → Nat → Nat → List Int → Option α), g53 m 0 u.length a 0 v.length b p u.length u v.length v k1 k = k n n n (digs u v n))) := by
  cases hok : okS u v
  · exact .inl ⟨1, fun k => by rw [g52_o, g76L m _ _ hu hv hm, hok]; rfl, fun k1 k => by rw [g53_o, g41L m _ _ hu hv hm, hok]; rfl⟩
  · by_cases hp : 0 ≤ p ∧ p ≤ 400
    · obtain ⟨n, rfl⟩ : ∃ q : Nat, p = (q : Int) := ⟨p.toNat, by omega⟩
      have hv0 := (okS_pos hok).2.1
      refine .inr ⟨n, by omega, fun k => ?_, fun k1 k => ?_⟩
      · rw [g52_o, g76L m _ _ hu hv hm, hok, Bool.not_true, cond_false, g63L, dT hp, Bool.not_true, cond_false]
        have := loopR (fun m' i => g52l0 (g80 m) (n : Int) u.length u v.length v 0 u.length a 0 v.length b (fun l => k 0 l) m' (i : Int) ((digs u v n).take i)) (fun i => k 0 (digs u v n)) n (fun m => ?_) (fun m' i hi h => ?_) n 0 m (by omega) (by omega)
        · simpa using this
        · rw [g52l0_s, dF (by omega), cond_false, List.take_of_length_le (by rw [digs_length]; omega)]
        · rw [g52l0_s, dT (by omega), cond_true, g80eq, g81L m _ _ hu hv hv0 (by omega), if_pos (by rw [List.length_take, digs_length]; omega), wrapS (by omega), ← digs_at u v hi, take_snoc _ (by rw [digs_length]; exact hi)]
          exact h
      · rw [g53_o, g41L m _ _ hu hv hm, hok, Bool.not_true, cond_false, g58L, dT hp, Bool.not_true, cond_false, if_pos ⟨rfl, by omega, by omega⟩]
        dsimp only
        rw [Int.toNat_natCast]
        have := loopR (fun m' i => g53l0 (g81 m) 0 n n ((n : Nat) : Int) u.length u v.length v 0 u.length a 0 v.length b n (fun l => k n n n l) m' (i : Int) ((digs u v n).take i ++ List.replicate ((digs u v n).length - i) 0)) (fun i => k n n n (digs u v n)) n
          (fun m => ?_) (fun m' i hi h => ?_) n 0 m (by omega) (by omega)
        · simpa [digs_length] using this
        · rw [g53l0_s, dF (by omega), cond_false, List.take_of_length_le (by rw [digs_length]; omega), digs_length, Nat.sub_self, List.replicate_zero, List.append_nil]
        · rw [g53l0_s, dT (by omega), cond_true, g81L m _ _ hu hv hv0 (by omega), if_pos (cast_lt hi), Int.toNat_natCast, Nat.zero_add, if_pos hi, wrapS (by omega), ← digs_at u v hi, set_zero _ (by rw [digs_length]; exact hi)]
          exact h
    · exact .inl ⟨2, fun k => by rw [g52_o, g76L m _ _ hu hv hm, hok, Bool.not_true, cond_false, g63L, dF hp]; rfl, fun k1 k => by rw [g53_o, g41L m _ _ hu hv hm, hok, Bool.not_true, cond_false, g58L, dF hp]; rfl⟩
theorem law16 {α : Type} (m a3 b3 : Nat) (p : Int) {u1 u2 : List Int} (h1 : u1.length ≤ 9223372036854775807) (h2 : u2.length ≤ 9223372036854775807) (hm : 1048576 < m) (k : Bool → Option α) : g16 m 0 u1.length a3 0 u2.length b3 p u1.length u1 u2.length u2 k = k true := by
  rw [g16_o, show (1048576 : Int) = ((1048576 : Nat) : Int) from rfl, g35L m 0 a3 0 b3 (Nat.le_refl _) h1 h2]
  by_cases hul : u1.length + u2.length ≤ 1048576
  · have q1 : u1.length ≤ 1048576 := by omega
    have q2 : u2.length ≤ 1048576 := by omega
    have m0 : 0 < m := by omega
    rw [if_pos hul, dF (by omega), cond_false, g37L m _ _ q1 q2 hm]
    rcases digits_res m u1.length u2.length q1 q2 hm p with ⟨x, e1, e2⟩ | ⟨n, hn, e1, e2⟩
    · rw [e1, g37L m _ _ q1 q2 hm, e2, g54v3L m m0, Bool.not_true, cond_false, bne_self_eq_false, cond_false, g37L m _ _ q1 q2 hm, g39T m _ _ _ _ q1 q2 hm, Bool.not_true, cond_false, g48L m _ _ _ _ rfl rfl q1 q2 hm, dF (by omega), cond_false,
        g54v3L m m0, Bool.not_true, cond_false, cond_false, g55v1L m m0, g56L m m0, g37L m _ _ q1 q2 hm, e2, g54v3L m m0, Bool.not_true, cond_false, bne_self_eq_false, cond_false, g56L m m0]
    · have l1 := digs_length u1 u2 n
      rw [e1, g37L m _ _ q1 q2 hm, e2, g54v4L m _ _ l1 (by omega) hm, dT rfl, Bool.not_true, cond_false, bne_self_eq_false, cond_false, g37L m _ _ q1 q2 hm, g39T m _ _ _ _ q1 q2 hm, Bool.not_true, cond_false, g48L m _ _ _ _ rfl rfl q1 q2 hm, dF (by omega), cond_false,
        g54v4L m _ _ l1 (by omega) hm, dT rfl, Bool.not_true, cond_false, cond_false, g55L m _ _ l1 (by omega) hm (by omega) (by omega), g56v1L m _ _ (by omega) hm (by omega) (by omega), dF (by omega), cond_false, bne_self_eq_false, cond_false,
        g37L m _ _ q1 q2 hm, e2, g54v4L m _ _ l1 (by omega) hm, dT rfl, Bool.not_true, cond_false, cond_false, g56v1L m _ _ (by omega) hm (by omega) (by omega), dF (by omega), cond_false, bne_self_eq_false, cond_false]
  · rw [if_neg hul, dT (by omega), cond_true]
theorem law16m (m : Nat) (hm : 1048576 < m) (ls : List Lf) (hw : WA ap13 ls) : g16K (g16 m) ls (fun v _ _ => saysTrue v) = some () := by
  obtain ⟨⟨⟨a1, a2, a3, a4, a5, a6⟩, ⟨b1, b2, b3, b4, b5, b6⟩, _⟩, _⟩ := hw
  rw [maxLen_eq] at a4 b4
  unfold g16K
  have e0 : (lf ls 0).nat = 0 := a1
  have e3 : (lf ls 3).nat = 0 := b1
  have e1 : (lf ls 1).nat = ((lf ls 8).lst (.int .i8)).length := a5.symm
  have e4 : (lf ls 4).nat = ((lf ls 10).lst (.int .i8)).length := b5.symm
  have e6 : (lf ls 7).nat = (lf ls 1).nat := a2
  have e8 : (lf ls 9).nat = (lf ls 4).nat := b2
  have x1 : (lf ls 1).nat ≤ 9223372036854775807 := Nat.le_trans a3 a4
  have x2 : (lf ls 4).nat ≤ 9223372036854775807 := Nat.le_trans b3 b4
  rw [e1] at x1
  rw [e4] at x2
  rw [e6, e8, e0, e3, e1, e4]
  exact law16 m _ _ _ x1 x2 hm _
theorem law16' (ls : List Lf) (hw : WA ap13 ls) : g16K (g16 1048577) ls (fun v _ _ => saysTrue v) = some () := law16m 1048577 (by omega) ls hw
end Go.Proofs.Ytbpljilgekneoaa.Sx
