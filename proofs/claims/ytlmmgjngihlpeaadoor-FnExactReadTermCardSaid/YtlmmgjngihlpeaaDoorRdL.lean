import Derived.Test.YtlmmgjngihlpeaaDoorTrmT
import Derived.Test.YtlmmgjngihlpeaaDoorRdP
import Derived.Lib.ParseIntBTie
namespace Go.Proofs.YtlmmgjngihlpeaaDoor.Sx
open Go
set_option linter.unusedVariables false
set_option linter.unusedSimpArgs false
set_option maxRecDepth 100000
def digB (l : List Int) : List UInt8 := l.map fun n => UInt8.ofNat n.toNat
theorem fmtI_data (n : Int) : (fmtI n).data.toList = digB (cond (decide (n < 0)) (45 :: decL n.natAbs) (decL n.natAbs)) := bytesS_data _
theorem dig_nat {d : Nat} (h : d < 10) : (UInt8.ofNat (48 + (d : Int)).toNat).toNat = 48 + d := by
  have : (48 + (d : Int)).toNat = 48 + d := by omega
  rw [this]
  simp
  omega
theorem parseU : ∀ (k n acc : Nat), acc * 10 ^ k + n % 10 ^ k ≤ 18446744073709551615 → Lib.parseUintM 18446744073709551615 acc (digB (padL k n)) = .ok (acc * 10 ^ k + n % 10 ^ k)
  | 0, n, acc, _ => by
    show Lib.NumEnd.ok acc = .ok (acc * 10 ^ 0 + n % 10 ^ 0)
    simp [Nat.mod_one]
  | k + 1, n, acc, h => by
    have hD : n / 10 ^ k % 10 < 10 := Nat.mod_lt _ (by decide)
    have hP : 1 ≤ 10 ^ k := Nat.one_le_pow _ _ (by decide)
    have hm : n % 10 ^ (k + 1) = n % 10 ^ k + 10 ^ k * (n / 10 ^ k % 10) := Nat.mod_pow_succ
    generalize hd : n / 10 ^ k % 10 = D at *
    have hs : acc * 10 ^ (k + 1) + n % 10 ^ (k + 1) = (acc * 10 + D) * 10 ^ k + n % 10 ^ k := by
      rw [hm, Nat.pow_succ, Nat.add_mul, Nat.mul_assoc, Nat.mul_comm 10 (10 ^ k), Nat.mul_comm D]; omega
    rw [hs] at h ⊢
    have hle : acc * 10 + D ≤ 18446744073709551615 := by
      have := Nat.le_mul_of_pos_right (acc * 10 + D) hP
      omega
    rw [padL_cons, hd]
    show Lib.parseUintM _ acc (UInt8.ofNat (48 + (D : Int)).toNat :: digB (padL k n)) = _
    unfold Lib.parseUintM
    rw [dig_nat hD, if_pos ⟨by omega, by omega⟩, if_neg (by omega), if_neg (by omega), show acc * 10 + (48 + D - 48) = acc * 10 + D by omega]
    exact parseU k n (acc * 10 + D) h
theorem decL_ne (n : Nat) : decL n ≠ [] := by
  intro h
  have h1 := decL_len n
  rw [h] at h1
  have := (ndig_spec n n (Nat.le_refl _)).2.2
  simp at h1; omega
theorem parseUB {n : Nat} (h : n ≤ 18446744073709551615) : Lib.parseUintB 64 (digB (decL n)) = .ok n := by
  have hlt := (ndig_spec n n (Nat.le_refl _)).1
  have := parseU (ndig n) n 0 (by rw [Nat.mod_eq_of_lt hlt]; omega)
  rw [Nat.mod_eq_of_lt hlt, Nat.zero_mul, Nat.zero_add] at this
  unfold Lib.parseUintB
  rw [if_neg (by unfold digB; simpa using decL_ne n)]
  exact this
theorem decL_head (n : Nat) : ∃ d r, decL n = (48 + ((d : Nat) : Int)) :: r ∧ d < 10 ∧ (r ≠ [] → d ≠ 0) := by
  obtain ⟨h1, h2, h3⟩ := ndig_spec n n (Nat.le_refl _)
  obtain ⟨k, hk⟩ : ∃ k, ndig n = k + 1 := ⟨ndig n - 1, by omega⟩
  unfold decL
  rw [hk, padL_cons]
  refine ⟨n / 10 ^ k % 10, padL k n, rfl, Nat.mod_lt _ (by decide), fun hr => ?_⟩
  have hk0 : 0 < k := by
    rcases Nat.eq_zero_or_pos k with h | h
    · subst h; exact absurd rfl hr
    · exact h
  have hn0 : 0 < n := by
    rcases Nat.eq_zero_or_pos n with h | h
    · subst h
      rw [ndig_small (by decide)] at hk; omega
    · exact h
  have h4 := h2 hn0
  rw [hk, Nat.add_sub_cancel] at h4
  rw [hk, Nat.pow_succ] at h1
  have h5 : n / 10 ^ k < 10 := Nat.div_lt_of_lt_mul h1
  have h6 : 1 ≤ n / 10 ^ k := (Nat.le_div_iff_mul_le (Nat.pow_pos (by decide))).2 (by omega)
  omega
theorem padL_dig : ∀ (k n : Nat), ∀ x ∈ padL k n, ∃ d : Nat, d < 10 ∧ x = 48 + (d : Int)
  | 0, n, x, h => by cases h
  | k + 1, n, x, h => by
    rw [padL_cons] at h
    rcases List.mem_cons.1 h with rfl | h
    · exact ⟨_, Nat.mod_lt _ (by decide), rfl⟩
    · exact padL_dig k n x h
theorem parseIB {n : Int} (h1 : -9223372036854775808 ≤ n) (h2 : n ≤ 9223372036854775807) : Lib.parseIntB 64 (fmtI n).data.toList = .ok n := by
  rw [fmtI_data]
  by_cases h : n < 0
  · rw [dT h, cond_true]
    have hp := parseUB (n := n.natAbs) (by omega)
    show Lib.parseIntB 64 (45 :: digB (decL n.natAbs)) = _
    unfold Lib.parseIntB
    dsimp only
    rw [show UInt8.toNat 45 = 45 from rfl, if_pos (show (45 : Nat) = 43 ∨ (45 : Nat) = 45 from Or.inr rfl), hp]
    dsimp only
    rw [if_neg (fun e => e.1 rfl), if_neg (fun e => by have := e.2; omega), if_pos rfl]
    congr 1
    omega
  · rw [dF h, cond_false]
    have hp := parseUB (n := n.natAbs) (by omega)
    obtain ⟨d, r, e1, e2, _⟩ := decL_head n.natAbs
    rw [e1] at hp ⊢
    have hdn := dig_nat e2
    show Lib.parseIntB 64 (UInt8.ofNat (48 + (d : Int)).toNat :: digB r) = _
    unfold Lib.parseIntB
    dsimp only
    rw [hdn, if_neg (by omega)]
    replace hp : Lib.parseUintB 64 (UInt8.ofNat (48 + (d : Int)).toNat :: digB r) = _ := hp
    rw [hp]
    dsimp only
    rw [if_neg (fun e => by have := e.2; omega), if_neg (fun e => by have := e.1; omega), if_neg (by omega)]
    congr 1
    omega
theorem fmtI_inj {a b : Int} (a1 : -9223372036854775808 ≤ a) (a2 : a ≤ 9223372036854775807) (b1 : -9223372036854775808 ≤ b) (b2 : b ≤ 9223372036854775807) (h : fmtI a = fmtI b) : a = b := by
  have e1 := parseIB a1 a2
  rw [h, parseIB b1 b2] at e1
  injection e1 with e1
  exact e1.symm
theorem bytesEq_iff {a b : ByteArray} : bytesEq a b = true ↔ a = b := by
  unfold bytesEq
  rw [beq_iff_eq]
  constructor
  · intro h
    rw [Lib.toList_data, Lib.toList_data] at h
    exact bytes_ext h
  · rintro rfl; rfl
def I64 (n : Int) : Prop := -9223372036854775808 ≤ n ∧ n ≤ 9223372036854775807
theorem integerL {m : Nat} (hm : 4 ≤ m) {w : ByteArray} (hsz : w.size ≤ 281474976710656) :
    (∃ n, I64 n ∧ w = fmtI n ∧ ∀ (α : Type) (k : Int → Bool → Option α), g109 m w k = k n true) ∨ ((∀ n, I64 n → w ≠ fmtI n) ∧ ∃ v, ∀ (α : Type) (k : Int → Bool → Option α), g109 m w k = k v false) := by
  rcases hp : Lib.parseIntB 64 w.data.toList with v | _ | _
  · have hb := Lib.parseIntB_bounds hp
    have hI : I64 v := by
      have h9 : (2 : Nat) ^ (64 - 1) = 9223372036854775808 := by decide
      rw [h9] at hb
      exact ⟨by omega, by omega⟩
    by_cases he : fmtI v = w
    · refine .inl ⟨v, hI, he.symm, fun α k => ?_⟩
      rw [g109_o]
      unfold g124
      rw [if_pos ⟨rfl, rfl, hsz⟩, hp]
      dsimp only
      rw [g83_o, fmtB hm hI.1 hI.2, bytesEq_iff.2 he]
    · refine .inr ⟨fun n hn e => ?_, v, fun α k => ?_⟩
      · rw [e, parseIB hn.1 hn.2] at hp
        injection hp with hp
        exact he (by rw [← hp, e])
      · rw [g109_o]
        unfold g124
        rw [if_pos ⟨rfl, rfl, hsz⟩, hp]
        dsimp only
        rw [g83_o, fmtB hm hI.1 hI.2, show bytesEq (fmtI v) w = false from by
          cases hc : bytesEq (fmtI v) w with
          | false => rfl
          | true => exact absurd (bytesEq_iff.1 hc) he]
  · refine .inr ⟨fun n hn e => ?_, 0, fun α k => ?_⟩
    · rw [e, parseIB hn.1 hn.2] at hp; cases hp
    · rw [g109_o]
      unfold g124
      rw [if_pos ⟨rfl, rfl, hsz⟩, hp]
  · refine .inr ⟨fun n hn e => ?_, Lib.intSat 64 w.data.toList, fun α k => ?_⟩
    · rw [e, parseIB hn.1 hn.2] at hp; cases hp
    · rw [g109_o]
      unfold g124
      rw [if_pos ⟨rfl, rfl, hsz⟩, hp]
def chD (d : Nat) : UInt8 := UInt8.ofNat (48 + d)
theorem chD_nat {d : Nat} (h : d < 10) : (chD d).toNat = 48 + d := by
  unfold chD
  simp
  omega
def valD : Nat → List Nat → Nat
  | acc, [] => acc
  | acc, d :: ds => valD (10 * acc + d) ds
theorem valD_split : ∀ (ds : List Nat) (acc : Nat), (∀ d ∈ ds, d < 10) → valD acc ds = acc * 10 ^ ds.length + valD 0 ds ∧ valD 0 ds < 10 ^ ds.length
  | [], acc, _ => by simp [valD]
  | d :: ds, acc, h => by
    have hd := h d (by simp)
    have h1 := valD_split ds (10 * acc + d) (fun x hx => h x (by simp [hx]))
    have h2 := valD_split ds (10 * 0 + d) (fun x hx => h x (by simp [hx]))
    show valD (10 * acc + d) ds = acc * 10 ^ (ds.length + 1) + valD (10 * 0 + d) ds ∧ valD (10 * 0 + d) ds < 10 ^ (ds.length + 1)
    rw [h1.1, h2.1, Nat.pow_succ]
    have hv := h1.2
    generalize 10 ^ ds.length = P at *
    generalize valD 0 ds = V at *
    refine ⟨?_, ?_⟩
    · rw [Nat.add_mul, Nat.mul_zero, Nat.zero_add, Nat.mul_comm 10 acc, Nat.mul_assoc, Nat.mul_comm 10 P]; omega
    · have : d * P ≤ 9 * P := Nat.mul_le_mul_right P (by omega)
      rw [Nat.mul_zero, Nat.zero_add]; omega
theorem padL_val : ∀ (ds : List Nat) (acc : Nat), (∀ d ∈ ds, d < 10) → padL ds.length (valD acc ds) = ds.map fun d : Nat => 48 + (d : Int)
  | [], acc, _ => rfl
  | d :: ds, acc, h => by
    have hd := h d (by simp)
    have h1 := valD_split ds (10 * acc + d) (fun x hx => h x (by simp [hx]))
    show padL (ds.length + 1) (valD (10 * acc + d) ds) = (48 + (d : Int)) :: _
    rw [padL_cons, padL_val ds _ (fun x hx => h x (by simp [hx]))]
    congr 1
    have hv := h1.2
    have hP : 0 < 10 ^ ds.length := Nat.pow_pos (by decide)
    rw [h1.1, Nat.add_comm, Nat.add_mul_div_right _ _ hP, Nat.div_eq_of_lt hv]
    omega
theorem decL_val {ds : List Nat} (h : ∀ d ∈ ds, d < 10) (hne : ds ≠ []) (h0 : ds.head? = some 0 → ds.length = 1) : decL (valD 0 ds) = ds.map fun d : Nat => 48 + (d : Int) := by
  have hn : ndig (valD 0 ds) = ds.length := by
    match ds, hne with
    | d :: r, _ =>
      have hd := h d (by simp)
      by_cases hz : d = 0
      · subst hz
        have hr := h0 rfl
        have : r = [] := by
          cases r with
          | nil => rfl
          | cons _ _ => simp at hr
        subst this
        exact ndig_small (by decide)
      · have h1 := valD_split r (10 * 0 + d) (fun x hx => h x (by simp [hx]))
        have h2 := (valD_split (d :: r) 0 h).2
        have hP : 0 < 10 ^ r.length := Nat.pow_pos (by decide)
        have h3 : 10 ^ r.length ≤ valD 0 (d :: r) := by
          show _ ≤ valD (10 * 0 + d) r
          rw [h1.1, Nat.mul_zero, Nat.zero_add]
          have := Nat.le_mul_of_pos_left (10 ^ r.length) (show 0 < d by omega)
          omega
        exact ndig_unique (by omega) h2 h3
  unfold decL
  rw [hn]
  exact padL_val ds 0 h
theorem byte_at {w : ByteArray} {i : Nat} {b : UInt8} {r : List UInt8} (h : w.data.toList.drop i = b :: r) : i < w.size ∧ byteAt w i = (b.toNat : Int) ∧ w.data.toList.drop (i + 1) = r := by
  have hl : i < w.data.toList.length := by
    rcases Nat.lt_or_ge i w.data.toList.length with h1 | h1
    · exact h1
    · rw [List.drop_eq_nil_of_le h1] at h; cases h
  have h2 := List.drop_eq_getElem_cons hl
  rw [h] at h2
  injection h2 with h3 h4
  refine ⟨by rw [show w.size = w.data.toList.length by simp]; exact hl, ?_, h4.symm⟩
  unfold byteAt
  rw [getD_at _ _ hl, ← h3]
theorem numLoop {w : ByteArray} (hw : w.size ≤ 10) : ∀ (r : List UInt8) (i acc m : Nat), w.data.toList.drop i = r → r.length < m → acc < 10 ^ i →
    (∃ ds : List Nat, (∀ d ∈ ds, d < 10) ∧ r = ds.map chD ∧ ∀ (α : Type) (kF : Option α) (kT : Int → Option α), g120l0 w kF kT m (acc : Int) (i : Int) = kT ((valD acc ds : Nat) : Int)) ∨
    ((∃ b ∈ r, ¬ (48 ≤ b.toNat ∧ b.toNat ≤ 57)) ∧ ∀ (α : Type) (kF : Option α) (kT : Int → Option α), g120l0 w kF kT m (acc : Int) (i : Int) = kF)
  | [], i, acc, m, h, hm, ha => by
    obtain ⟨m, rfl⟩ : ∃ n, m = n + 1 := ⟨m - 1, by omega⟩
    have hi : w.size ≤ i := by
      have := List.drop_eq_nil_iff.1 h
      rwa [show w.data.toList.length = w.size by simp] at this
    refine .inl ⟨[], by simp, rfl, fun α kF kT => ?_⟩
    rw [g120l0_s, dF (by omega), cond_false]; rfl
  | b :: r, i, acc, m, h, hm, ha => by
    obtain ⟨m, rfl⟩ : ∃ n, m = n + 1 := ⟨m - 1, by omega⟩
    obtain ⟨hi, hb, hr⟩ := byte_at h
    have hp : 10 ^ i ≤ 10 ^ 10 := Nat.pow_le_pow_right (by decide) (by omega)
    by_cases hd : 48 ≤ b.toNat ∧ b.toNat ≤ 57
    · have hstep : ∀ (α : Type) (kF : Option α) (kT : Int → Option α), g120l0 w kF kT (m + 1) (acc : Int) (i : Int) = g120l0 w kF kT m ((10 * acc + (b.toNat - 48) : Nat) : Int) ((i + 1 : Nat) : Int) := by
        intro α kF kT
        rw [g120l0_s, dT (by omega), cond_true, if_pos ⟨by omega, by omega⟩, Int.toNat_natCast, hb, dF (by omega), cond_false, if_pos ⟨by omega, by omega⟩, dF (by omega), cond_false, if_pos ⟨by omega, by omega⟩, wrapS (by omega),
          wrapI (x := 10 * (acc : Int)) (by omega) (by omega), IntKind.wrap_u8, wrapI (x := ((b.toNat : Int) - 48) % 256) (by omega) (by omega), wrapI (by omega) (by omega)]
        congr 1
        omega
      have ih := numLoop hw r (i + 1) (10 * acc + (b.toNat - 48)) m hr (by simpa using hm) (by rw [Nat.pow_succ]; omega)
      rcases ih with ⟨ds, h1, h2, h3⟩ | ⟨⟨x, hx, hx2⟩, h3⟩
      · refine .inl ⟨(b.toNat - 48) :: ds, ?_, ?_, fun α kF kT => by rw [hstep, h3]; rfl⟩
        · intro d hd2
          rcases List.mem_cons.1 hd2 with rfl | h4
          · omega
          · exact h1 d h4
        · rw [List.map_cons, ← h2]
          congr 1
          unfold chD
          rw [show 48 + (b.toNat - 48) = b.toNat by omega]
          simp
      · exact .inr ⟨⟨x, by simp [hx], hx2⟩, fun α kF kT => by rw [hstep, h3]⟩
    · refine .inr ⟨⟨b, by simp, hd⟩, fun α kF kT => ?_⟩
      rw [g120l0_s, dT (by omega), cond_true, if_pos ⟨by omega, by omega⟩, Int.toNat_natCast, hb]
      by_cases h1 : b.toNat < 48
      · rw [dT (by omega), cond_true]
      · rw [dF (by omega), cond_false, if_pos ⟨by omega, by omega⟩, dT (by omega), cond_true]
theorem fmtI_pos (n : Nat) : (fmtI (n : Int)).data.toList = digB (decL n) := by rw [fmtI_nat, bytesS_data]; rfl
theorem fmtI_head (n : Nat) : ∃ d r, (fmtI (n : Int)).data.toList = chD d :: r ∧ d < 10 ∧ (r ≠ [] → d ≠ 0) := by
  obtain ⟨d, r, e1, e2, e3⟩ := decL_head n
  refine ⟨d, digB r, ?_, e2, fun h => e3 (by intro e; subst e; exact h rfl)⟩
  rw [fmtI_pos, e1]
  show UInt8.ofNat (48 + (d : Int)).toNat :: _ = _
  unfold chD
  rw [show (48 + (d : Int)).toNat = 48 + d by omega]; rfl
theorem fmtI_negD {n : Nat} (h : 0 < n) : (fmtI (-(n : Int))).data.toList = 45 :: (fmtI (n : Int)).data.toList := by
  rw [fmtI_neg h, bytesS_data, fmtI_pos]; rfl
theorem fmtI_dig {n : Nat} : ∀ b ∈ (fmtI (n : Int)).data.toList, 48 ≤ b.toNat ∧ b.toNat ≤ 57 := by
  intro b hb
  rw [fmtI_pos] at hb
  unfold digB at hb
  obtain ⟨x, hx, rfl⟩ := List.mem_map.1 hb
  obtain ⟨d, hd, rfl⟩ := padL_dig _ _ x hx
  rw [dig_nat hd]; omega
theorem fmtI_posSize (n : Nat) : (fmtI (n : Int)).size = ndig n := by rw [fmtI_nat, bytesS_len, decL_len]
theorem numberL {m : Nat} (hm : 20 ≤ m) {w : ByteArray} : (∃ n : Nat, n < 10 ^ 10 ∧ w = fmtI (n : Int) ∧ ∀ (α : Type) (k : Int → Bool → Option α), g120 m w k = k (n : Int) true) ∨
    ((∀ n : Nat, n < 10 ^ 10 → w ≠ fmtI (n : Int)) ∧ ∀ (α : Type) (k : Int → Bool → Option α), g120 m w k = k 0 false) := by
  by_cases h0 : w = ⟨#[]⟩
  · refine .inr ⟨fun n hn e => ?_, fun α k => by rw [g120_o, bytesEq_iff.2 h0, cond_true]⟩
    have h1 := fmtI_posSize n
    have h2 := (ndig_spec n n (Nat.le_refl _)).2.2
    rw [← e, h0] at h1
    have : (⟨#[]⟩ : ByteArray).size = 0 := rfl
    omega
  have hne : bytesEq w ⟨#[]⟩ = false := by
    cases hc : bytesEq w ⟨#[]⟩ with
    | false => rfl
    | true => exact absurd (bytesEq_iff.1 hc) h0
  by_cases hs : w.size ≤ 10
  case neg =>
    refine .inr ⟨fun n hn e => ?_, fun α k => by rw [g120_o, hne, cond_false, dT (by omega), cond_true]⟩
    have h1 := fmtI_posSize n
    rw [← e] at h1
    have := ndig_le (n := n) (k := 10) (by decide) hn
    omega
  cases hl : w.data.toList with
  | nil => exact absurd (bytes_ext hl) h0
  | cons b r =>
    have hl0 : w.data.toList.drop 0 = b :: r := hl
    obtain ⟨hi, hb, hr⟩ := byte_at hl0
    have hsz : w.size = r.length + 1 := by rw [show w.size = w.data.toList.length by simp, hl]; rfl
    by_cases hz : b.toNat = 48 ∧ r ≠ []
    · refine .inr ⟨fun n hn e => ?_, fun α k => ?_⟩
      · obtain ⟨d, r', e1, e2, e3⟩ := fmtI_head n
        rw [← e, hl] at e1
        injection e1 with e4 e5
        subst e5
        have := e3 hz.2
        have := hz.1
        rw [e4, chD_nat e2] at this
        omega
      · have : 0 < r.length := List.length_pos_iff.2 hz.2
        rw [g120_o, hne, cond_false, dF (by omega), cond_false, if_pos ⟨by omega, by omega⟩, show (0 : Int).toNat = 0 from rfl, hb, show (((b.toNat : Nat) : Int) == 48) = true by rw [hz.1]; rfl, cond_true, dT (by omega), cond_true]
    · have hgo : ∀ (α : Type) (k : Int → Bool → Option α), g120 m w k = g120l0 w (k 0 false) (fun x => k x true) m ((0 : Nat) : Int) ((0 : Nat) : Int) := by
        intro α k
        rw [g120_o, hne, cond_false, dF (by omega), cond_false, if_pos ⟨by omega, by omega⟩, show (0 : Int).toNat = 0 from rfl, hb]
        by_cases h48 : b.toNat = 48
        · have hr0 : r = [] := by
            by_cases e : r = []
            · exact e
            · exact absurd ⟨h48, e⟩ hz
          subst hr0
          rw [show (((b.toNat : Nat) : Int) == 48) = true by rw [h48]; rfl, cond_true, hsz, dF (by simp), cond_false]; rfl
        · rw [show (((b.toNat : Nat) : Int) == 48) = false by simp; omega, cond_false]; rfl
      rcases numLoop hs (b :: r) 0 0 m hl0 (by simp; omega) (by decide) with ⟨ds, h1, h2, h3⟩ | ⟨⟨x, hx, hx2⟩, h3⟩
      · have hdn : ds ≠ [] := by intro e; subst e; simp at h2
        have hlen : ds.length = r.length + 1 := by have := congrArg List.length h2; simpa using this.symm
        have h0' : ds.head? = some 0 → ds.length = 1 := by
          intro e
          match ds, hdn with
          | d :: r', _ =>
            simp at e; subst e
            simp at h2
            have hb48 : b.toNat = 48 := by rw [h2.1]; rfl
            have hr0 : r = [] := by
              by_cases e : r = []
              · exact e
              · exact absurd ⟨hb48, e⟩ hz
            subst hr0
            simpa using hlen
        have hv := (valD_split ds 0 h1).2
        have hv2 : 10 ^ ds.length ≤ 10 ^ 10 := Nat.pow_le_pow_right (by decide) (by omega)
        refine .inl ⟨valD 0 ds, by omega, ?_, fun α k => by rw [hgo, h3]⟩
        apply bytes_ext
        rw [hl, h2, fmtI_pos, decL_val h1 hdn h0']
        unfold digB
        rw [List.map_map]
        refine List.map_congr_left fun d hd => ?_
        show chD d = UInt8.ofNat (48 + (d : Int)).toNat
        rw [show (48 + (d : Int)).toNat = 48 + d by omega]; rfl
      · refine .inr ⟨fun n hn e => ?_, fun α k => by rw [hgo, h3]⟩
        rw [← hl, e] at hx
        exact hx2 (fmtI_dig x hx)
theorem extract1 {w : ByteArray} {b : UInt8} {r : List UInt8} (h : w.data.toList = b :: r) : (ByteArray.extract w 1 w.size).data.toList = r := by
  have hs : w.data.size = r.length + 1 := by rw [← Array.length_toList, h]; rfl
  rw [ByteArray.data_extract, Array.toList_extract, h]
  show List.take (w.data.size - 1) (List.drop 1 (b :: r)) = r
  rw [hs]; simp
def Small (n : Int) : Prop := -10000000000 < n ∧ n < 10000000000
theorem signedL {m : Nat} (hm : 20 ≤ m) {w : ByteArray} : (∃ n, Small n ∧ w = fmtI n ∧ ∀ (α : Type) (k : Int → Bool → Option α), g104 m w k = k n true) ∨
    ((∀ n, Small n → w ≠ fmtI n) ∧ ∃ v, ∀ (α : Type) (k : Int → Bool → Option α), g104 m w k = k v false) := by
  have hten : (10 : Nat) ^ 10 = 10000000000 := by decide
  by_cases hneg : ∃ r, w.data.toList = 45 :: r
  · obtain ⟨r, hl⟩ := hneg
    have hl0 : w.data.toList.drop 0 = 45 :: r := hl
    obtain ⟨hi, hb, hr⟩ := byte_at hl0
    have hne : bytesEq w ⟨#[]⟩ = false := by
      cases hc : bytesEq w ⟨#[]⟩ with
      | false => rfl
      | true => rw [bytesEq_iff.1 hc] at hl; cases hl
    have hgo : ∀ (α : Type) (k : Int → Bool → Option α), g104 m w k = g120 m (ByteArray.extract w 1 w.size) (fun x b => cond b (k (IntKind.wrap .i64 (0 - x)) (decide (x > 0))) (k (IntKind.wrap .i64 (0 - x)) false)) := by
      intro α k
      rw [g104_o, hne, Bool.not_false, cond_true, if_pos ⟨by omega, by omega⟩, show (0 : Int).toNat = 0 from rfl, hb, show ((((45 : UInt8).toNat : Nat) : Int) == 45) = true from rfl, cond_true, if_pos ⟨by omega, by omega, by omega⟩, Int.toNat_natCast]
    have he := extract1 hl
    have key : ∀ n, Small n → w = fmtI n → ∃ j : Nat, 0 < j ∧ j < 10 ^ 10 ∧ n = -(j : Int) ∧ ByteArray.extract w 1 w.size = fmtI (j : Int) := by
      intro n hn e
      by_cases hn0 : 0 ≤ n
      · obtain ⟨j, rfl⟩ := Int.eq_ofNat_of_zero_le hn0
        obtain ⟨d, r', e1, e2, _⟩ := fmtI_head j
        rw [← e, hl] at e1
        injection e1 with e3
        have := chD_nat e2
        rw [← e3] at this
        have h45 : UInt8.toNat 45 = 45 := rfl
        omega
      · obtain ⟨j, rfl⟩ : ∃ j : Nat, n = -(j : Int) := ⟨n.natAbs, by omega⟩
        refine ⟨j, by omega, by have := hn.1; omega, rfl, ?_⟩
        apply bytes_ext
        have := fmtI_negD (n := j) (by omega)
        rw [← e, hl] at this
        injection this with _ h2
        rw [he, h2]
    rcases numberL hm (w := ByteArray.extract w 1 w.size) with ⟨n, h1, h2, h3⟩ | ⟨h1, h3⟩
    · by_cases hn : 0 < n
      · refine .inl ⟨-(n : Int), ⟨by omega, by omega⟩, ?_, fun α k => ?_⟩
        · apply bytes_ext
          rw [fmtI_negD hn, ← h2, he, hl]
        · rw [hgo, h3, cond_true, dT (by omega), wrapI (by omega) (by omega), show (0 : Int) - (n : Int) = -(n : Int) by omega]
      · refine .inr ⟨fun x hx e => ?_, _, fun α k => by rw [hgo, h3, cond_true, dF (by omega)]⟩
        obtain ⟨j, j1, j2, rfl, j3⟩ := key x hx e
        have := fmtI_inj (a := (n : Int)) (b := (j : Int)) (by omega) (by omega) (by omega) (by omega) (by rw [← h2, ← j3])
        omega
    · refine .inr ⟨fun x hx e => ?_, _, fun α k => by rw [hgo, h3, cond_false]⟩
      obtain ⟨j, j1, j2, rfl, j3⟩ := key x hx e
      exact h1 j j2 j3
  · have hgo : ∀ (α : Type) (k : Int → Bool → Option α), g104 m w k = g120 m w (fun x b => k x b) := by
      intro α k
      rw [g104_o]
      cases hl : w.data.toList with
      | nil => rw [bytesEq_iff.2 (show w = ⟨#[]⟩ from bytes_ext hl)]; rfl
      | cons b r =>
        have hl0 : w.data.toList.drop 0 = b :: r := hl
        obtain ⟨hi, hb, hr⟩ := byte_at hl0
        have hne : bytesEq w ⟨#[]⟩ = false := by
          cases hc : bytesEq w ⟨#[]⟩ with
          | false => rfl
          | true => rw [bytesEq_iff.1 hc] at hl; cases hl
        have h45 : ¬ b.toNat = 45 := fun e => hneg ⟨r, by rw [hl]; congr 1; exact UInt8.toNat_inj.1 e⟩
        rw [hne, Bool.not_false, cond_true, if_pos ⟨by omega, by omega⟩, show (0 : Int).toNat = 0 from rfl, hb, show (((b.toNat : Nat) : Int) == 45) = false by simp; omega, cond_false]
    rcases numberL hm (w := w) with ⟨n, h1, h2, h3⟩ | ⟨h1, h3⟩
    · exact .inl ⟨(n : Int), ⟨by omega, by omega⟩, h2, fun α k => by rw [hgo, h3]⟩
    · refine .inr ⟨fun x hx e => ?_, _, fun α k => by rw [hgo, h3]⟩
      by_cases hx0 : 0 ≤ x
      · obtain ⟨j, rfl⟩ := Int.eq_ofNat_of_zero_le hx0
        exact h1 j (by have := hx.2; omega) e
      · obtain ⟨j, rfl⟩ : ∃ j : Nat, x = -(j : Int) := ⟨x.natAbs, by omega⟩
        have := fmtI_negD (n := j) (by omega)
        rw [← e] at this
        exact hneg ⟨_, this⟩
theorem ext_data (z : ByteArray) (a b : Nat) : (ByteArray.extract z a b).data.toList = (z.data.toList.drop a).take (b - a) := by
  rw [ByteArray.data_extract, Array.toList_extract]
theorem splitQ_len (z : ByteArray) (c : UInt8) : (splitQ z c).length = z.data.toList.count c + 1 := by
  unfold splitQ; rw [List.length_map, splitL_len]
theorem toB_ext (z : ByteArray) (a b : Nat) : ByteArray.extract z a b = toB ((z.data.toList.drop a).take (b - a)) := by
  rw [← toB_of (ByteArray.extract z a b), ext_data]
theorem spLoop {α : Type} {z : ByteArray} (hz : z.size ≤ 1048576) (c : UInt8) (k : Ty0 → Option α) : ∀ (d b i m : Nat) (acc : List ByteArray), i + d = z.size → b ≤ i → c ∉ (z.data.toList.drop b).take (i - b) → acc.length ≤ i → d < m →
    g69l0 z (c.toNat : Int) (fun x54 l55 => if 0 ≤ x54 ∧ x54 ≤ ((z.size : Nat) : Int) ∧ ((z.size : Nat) : Int) ≤ ((z.size : Nat) : Int) then if l55.length + 1 ≤ 67108864 then k (l55 ++ [(ByteArray.extract z (Int.toNat x54) (Int.toNat ((z.size : Nat) : Int)))]) else none else none)
      m (b : Int) (i : Int) acc = k (acc ++ (splitL c (z.data.toList.drop b)).map toB)
  | 0, b, i, m, acc, hi, hb, hc, ha, hm => by
    obtain ⟨m, rfl⟩ : ∃ n, m = n + 1 := ⟨m - 1, by omega⟩
    have hlen : (z.data.toList.drop b).length = i - b := by rw [List.length_drop, show z.data.toList.length = z.size by simp]; omega
    rw [List.take_of_length_le (by omega)] at hc
    rw [g69l0_s, dF (by omega), cond_false, if_pos ⟨by omega, by omega, by omega⟩, if_pos (by omega), splitL_none hc, Int.toNat_natCast, Int.toNat_natCast, toB_ext, List.take_of_length_le (by omega)]
    rfl
  | d + 1, b, i, m, acc, hi, hb, hc, ha, hm => by
    obtain ⟨m, rfl⟩ : ∃ n, m = n + 1 := ⟨m - 1, by omega⟩
    have hl : i < z.data.toList.length := by rw [show z.data.toList.length = z.size by simp]; omega
    obtain ⟨hi2, hbt, hr⟩ := byte_at (List.drop_eq_getElem_cons hl)
    have hcut : z.data.toList.drop b = (z.data.toList.drop b).take (i - b) ++ z.data.toList[i] :: z.data.toList.drop (i + 1) := by
      conv => lhs; rw [← List.take_append_drop (i - b) (z.data.toList.drop b)]
      rw [List.drop_drop, show b + (i - b) = i by omega, List.drop_eq_getElem_cons hl]
    rw [g69l0_s, dT (by omega), cond_true, if_pos ⟨by omega, by omega⟩, Int.toNat_natCast, hbt]
    by_cases he : z.data.toList[i] = c
    · rw [he, beq_self_eq_true, cond_true, if_pos ⟨by omega, by omega, by omega⟩, if_pos (by omega), wrapS (by omega), Int.toNat_natCast b]
      rw [spLoop hz c k d (i + 1) (i + 1) m _ (by omega) (by omega) (by simp) (by simp; omega) (by omega)]
      rw [he] at hcut
      rw [hcut, splitL_cut hc, toB_ext, List.append_assoc, List.map_cons]
      rfl
    · have hne : (((z.data.toList[i]).toNat : Int) == (c.toNat : Int)) = false := by
        have : (z.data.toList[i]).toNat ≠ c.toNat := fun e => he (UInt8.toNat_inj.1 e)
        rw [beq_eq_false_iff_ne]; exact fun e => this (Int.ofNat.inj e)
      rw [hne, cond_false, wrapS (by omega)]
      refine spLoop hz c k d b (i + 1) m acc (by omega) (by omega) ?_ (by omega) (by omega)
      have hb2 : i - b < (z.data.toList.drop b).length := by rw [List.length_drop]; omega
      rw [show i + 1 - b = (i - b) + 1 by omega, List.take_succ_eq_append_getElem hb2, List.mem_append]
      rintro (h | h)
      · exact hc h
      · simp only [List.getElem_drop, List.mem_singleton] at h
        apply he
        rw [h]
        congr 1
        omega
theorem splitSpec {α : Type} {m : Nat} (hm : 1048576 < m) {z : ByteArray} (hz : z.size ≤ 1048576) (c : UInt8) (k : Ty0 → Option α) : g69 m z (c.toNat : Int) k = k (splitQ z c) := by
  rw [g69_o]
  exact spLoop hz c k z.size 0 0 m [] (by omega) (by omega) (by simp) (by simp) (by omega)
theorem splitImpl {α : Type} (m : Nat) {z : ByteArray} (hz : z.size ≤ 1048576) (c : UInt8) (k : Nat → Nat → Nat → Ty0 → Option α) : g73 m z ⟨#[c]⟩ k = k (splitQ z c).length (splitQ z c).length (splitQ z c).length (splitQ z c) := by
  show (if z.size < 4294967281 then _ else _) = _
  rw [if_pos (by omega), show splitP z c = splitQ z c from splitB_Q z c]
theorem countImpl {α : Type} (m : Nat) (z : ByteArray) (c : UInt8) (k : Int → Option α) : g107 m z ⟨#[c]⟩ k = k ((z.data.toList.count c : Nat) : Int) := rfl
theorem piece_size {z : ByteArray} {c : UInt8} {x : ByteArray} (h : x ∈ splitQ z c) : x.size ≤ z.size := by
  unfold splitQ at h
  obtain ⟨y, hy, rfl⟩ := List.mem_map.1 h
  have h1 := splitL_pieces y hy
  rw [show (toB y).size = (toB y).data.toList.length by simp, toB_data]
  simpa using h1
theorem w16 {x : Int} (h1 : -32768 ≤ x) (h2 : x ≤ 32767) : IntKind.wrap .i16 x = x := by simp [IntKind.wrap, IntKind.bits, IntKind.signed]; omega
theorem hL2 (r : List Int) : ((r.length : Int) + 1 + 1 + 1 == 2) = false := by rw [beq_eq_false_iff_ne]; omega
theorem hL1 (r : List Int) : ((r.length : Int) + 1 + 1 + 1 == 1) = false := by rw [beq_eq_false_iff_ne]; omega
def numsX (kd a b p q : Int) : List Int := cond (decide (kd = 1)) [p, q] (cond (two kd) [a, b] (cond (one1 kd) [a] []))
def wordsX (kd a b p q : Int) : List ByteArray := wordB kd :: (numsX kd a b p q).map fmtI
theorem drop_at {T : Type} {l : List T} {i : Nat} {b : T} {r : List T} (h : l.drop i = b :: r) : i < l.length ∧ (∀ d, List.getD l i d = b) ∧ l.drop (i + 1) = r := by
  have hl : i < l.length := by
    rcases Nat.lt_or_ge i l.length with h1 | h1
    · exact h1
    · rw [List.drop_eq_nil_of_le h1] at h; cases h
  have h2 := List.drop_eq_getElem_cons hl
  rw [h] at h2
  injection h2 with h3 h4
  exact ⟨hl, fun d => by rw [getD_at _ _ hl, ← h3], h4.symm⟩
theorem wdLoop {q : Nat} (hq : 20 ≤ q) (ws : List ByteArray) (v1 v2 v3 v4 v5 v6 v7 u1 u2 u3 u4 u5 : Int) : ∀ (r : List ByteArray) (i m : Nat) (acc : List Int), ws.drop i = r → r.length < m → i + r.length ≤ 2000000 → acc.length ≤ i →
    (∃ ns : List Int, (∀ n ∈ ns, Small n) ∧ r = ns.map fmtI ∧ ∀ (α : Type) (kF : Option α) (kT : List Int → Option α), g70l2 (g104 q) v1 v2 v3 v4 v5 v6 v7 ws u1 u2 u3 u4 u5 kF kT m (i : Int) acc = kT (acc ++ ns)) ∨
    ((∃ w ∈ r, ∀ n, Small n → w ≠ fmtI n) ∧ ∀ (α : Type) (kF : Option α) (kT : List Int → Option α), g70l2 (g104 q) v1 v2 v3 v4 v5 v6 v7 ws u1 u2 u3 u4 u5 kF kT m (i : Int) acc = kF)
  | [], i, m, acc, h, hm, hi, ha => by
    obtain ⟨m, rfl⟩ : ∃ n, m = n + 1 := ⟨m - 1, by omega⟩
    have hl := List.drop_eq_nil_iff.1 h
    refine .inl ⟨[], by simp, rfl, fun α kF kT => ?_⟩
    rw [g70l2_s, dF (by omega), cond_false, List.append_nil]
  | w :: r, i, m, acc, h, hm, hi, ha => by
    obtain ⟨m, rfl⟩ : ∃ n, m = n + 1 := ⟨m - 1, by omega⟩
    obtain ⟨hl, hg, hr⟩ := drop_at h
    rw [List.length_cons] at hi hm
    have hgo : ∀ (α : Type) (kF : Option α) (kT : List Int → Option α), g70l2 (g104 q) v1 v2 v3 v4 v5 v6 v7 ws u1 u2 u3 u4 u5 kF kT (m + 1) (i : Int) acc =
        g104 q w (fun x b => cond (!b) kF (if acc.length + 1 ≤ 67108864 then g70l2 (g104 q) v1 v2 v3 v4 v5 v6 v7 ws u1 u2 u3 u4 u5 kF kT m ((i + 1 : Nat) : Int) (acc ++ [x]) else none)) := by
      intro α kF kT
      rw [g70l2_s, dT (by omega), cond_true, if_pos ⟨by omega, by omega⟩, Int.toNat_natCast, if_pos hl, hg, wrapS (by omega)]
    rcases signedL hq (w := w) with ⟨n, h1, h2, h3⟩ | ⟨h1, v, h3⟩
    · have hgo2 : ∀ (α : Type) (kF : Option α) (kT : List Int → Option α), g70l2 (g104 q) v1 v2 v3 v4 v5 v6 v7 ws u1 u2 u3 u4 u5 kF kT (m + 1) (i : Int) acc =
          g70l2 (g104 q) v1 v2 v3 v4 v5 v6 v7 ws u1 u2 u3 u4 u5 kF kT m ((i + 1 : Nat) : Int) (acc ++ [n]) := by
        intro α kF kT
        rw [hgo, h3, Bool.not_true, cond_false, if_pos (by omega)]
      rcases wdLoop hq ws v1 v2 v3 v4 v5 v6 v7 u1 u2 u3 u4 u5 r (i + 1) m (acc ++ [n]) hr (by omega) (by omega) (by simp; omega) with ⟨ns, g1, g2, g3⟩ | ⟨⟨x, hx, hx2⟩, g3⟩
      · refine .inl ⟨n :: ns, ?_, by rw [List.map_cons, ← g2, ← h2], fun α kF kT => by rw [hgo2, g3, List.append_assoc]; rfl⟩
        intro y hy
        rcases List.mem_cons.1 hy with rfl | hy
        · exact h1
        · exact g1 y hy
      · exact .inr ⟨⟨x, by simp [hx], hx2⟩, fun α kF kT => by rw [hgo2, g3]⟩
    · exact .inr ⟨⟨w, by simp, h1⟩, fun α kF kT => by rw [hgo, h3, Bool.not_false, cond_true]⟩
abbrev rdL {α : Type} (q at_ : Nat) (ws : List ByteArray) (K : Bool → Int → Int → Int → Int → Int → Option α) (K2 : Option α) (m : Nat) (kd : Int) : Option α :=
  g70l0 (g104 q) (g77 q) (g105 q) (g76 q) (g106 q) (g70l2M q) (at_ : Int) 0 13 13 0 0 0 0 0 ws wordsW K K2 m kd
theorem wordW (kd : Int) : List.getD wordsW (0 + kd.toNat) ⟨#[]⟩ = wordB kd := by rw [Nat.zero_add]; rfl
theorem wrapK {v : Nat} (h : v ≤ 12) : IntKind.wrap .i8 ((v : Int) + 1) = ((v + 1 : Nat) : Int) := by
  have : ∀ v : Fin 13, IntKind.wrap .i8 ((v.1 : Int) + 1) = ((v.1 + 1 : Nat) : Int) := by decide
  exact this ⟨v, by omega⟩
theorem kinds {q at_ : Nat} {w0 : ByteArray} {r : List ByteArray} : ∀ (d v m : Nat), v + d = 13 → 1 ≤ v → d < m →
    (∃ kd m' : Nat, v ≤ kd ∧ kd ≤ 12 ∧ w0 = wordB kd ∧ ∀ (α : Type) (K : Bool → Int → Int → Int → Int → Int → Option α) (K2 : Option α), rdL q at_ (w0 :: r) K K2 m (v : Int) = rdL q at_ (w0 :: r) K K2 (m' + 1) (kd : Int)) ∨
    ((∀ kd : Nat, v ≤ kd → kd ≤ 12 → w0 ≠ wordB kd) ∧ ∀ (α : Type) (K : Bool → Int → Int → Int → Int → Int → Option α) (K2 : Option α), rdL q at_ (w0 :: r) K K2 m (v : Int) = K2)
  | 0, v, m, h, h1, hm => by
    obtain ⟨m, rfl⟩ : ∃ n, m = n + 1 := ⟨m - 1, by omega⟩
    refine .inr ⟨fun kd a b => by omega, fun α K K2 => ?_⟩
    unfold rdL
    rw [g70l0_s, dF (by omega), cond_false]
  | d + 1, v, m, h, h1, hm => by
    obtain ⟨m, rfl⟩ : ∃ n, m = n + 1 := ⟨m - 1, by omega⟩
    by_cases he : w0 = wordB v
    · exact .inl ⟨v, m, by omega, by omega, he, fun α K K2 => rfl⟩
    · have hstep : ∀ (α : Type) (K : Bool → Int → Int → Int → Int → Int → Option α) (K2 : Option α), rdL q at_ (w0 :: r) K K2 (m + 1) (v : Int) = rdL q at_ (w0 :: r) K K2 m ((v + 1 : Nat) : Int) := by
        intro α K K2
        have hb : bytesEq w0 (wordB v) = false := by
          cases hc : bytesEq w0 (wordB v) with
          | false => rfl
          | true => exact absurd (bytesEq_iff.1 hc) he
        unfold rdL
        rw [g70l0_s, dT (by omega), cond_true, if_pos ⟨by omega, by rw [List.length_cons]; omega⟩, if_pos (by rw [List.length_cons]; omega), if_pos ⟨by omega, by omega⟩, if_pos (by omega), wordW, List.getD_cons_zero, hb, Bool.not_false, cond_true, wrapK (by omega)]
      rcases kinds (q := q) (at_ := at_) (w0 := w0) (r := r) d (v + 1) m (by omega) (by omega) (by omega) with ⟨kd, m', g1, g2, g3, g4⟩ | ⟨g1, g2⟩
      · exact .inl ⟨kd, m', by omega, g2, g3, fun α K K2 => by rw [hstep, g4]⟩
      · refine .inr ⟨fun kd a b => ?_, fun α K K2 => by rw [hstep, g2]⟩
        by_cases e : kd = v
        · subst e; exact he
        · exact g1 kd (by omega) b
theorem wordB_inj {a b : Nat} (ha : 1 ≤ a ∧ a ≤ 12) (hb : 1 ≤ b ∧ b ≤ 12) (h : wordB a = wordB b) : a = b := by
  have : ∀ x y : Fin 13, (wordB (x.1 : Int)).data.toList = (wordB (y.1 : Int)).data.toList → x = y := by decide
  have := this ⟨a, by omega⟩ ⟨b, by omega⟩ (by show (wordB (a : Int)).data.toList = (wordB (b : Int)).data.toList; rw [h])
  simpa using this
theorem map_inj : ∀ {a b : List Int}, (∀ n ∈ a, Small n) → (∀ n ∈ b, Small n) → a.map fmtI = b.map fmtI → a = b
  | [], [], _, _, _ => rfl
  | [], _ :: _, _, _, h => by cases h
  | _ :: _, [], _, _, h => by cases h
  | x :: a, y :: b, h1, h2, h => by
    rw [List.map_cons, List.map_cons] at h
    injection h with h3 h4
    have hx := h1 x (by simp)
    have hy := h2 y (by simp)
    rw [fmtI_inj (by have := hx.1; omega) (by have := hx.2; omega) (by have := hy.1; omega) (by have := hy.2; omega) h3, map_inj (fun n hn => h1 n (by simp [hn])) (fun n hn => h2 n (by simp [hn])) h4]
theorem wdOk {q : Nat} (hq : 20 ≤ q) {w0 : ByteArray} {ns : List Int} (hs : ∀ n ∈ ns, Small n) (hlen : ns.length ≤ 1999999) (hm : ns.length < q) (v1 v2 v3 v4 v5 v6 v7 u1 u2 u3 u4 u5 : Int) (α : Type) (kF : Option α) (kT : List Int → Option α) :
    g70l2 (g104 q) v1 v2 v3 v4 v5 v6 v7 (w0 :: ns.map fmtI) u1 u2 u3 u4 u5 kF kT q 1 [] = kT ns := by
  rcases wdLoop hq (w0 :: ns.map fmtI) v1 v2 v3 v4 v5 v6 v7 u1 u2 u3 u4 u5 (ns.map fmtI) 1 q [] rfl (by simpa using hm) (by simp; omega) (by simp) with ⟨ns', g1, g2, g3⟩ | ⟨⟨w, hw, hw2⟩, _⟩
  · obtain rfl := map_inj hs g1 g2
    exact g3 α kF kT
  · obtain ⟨n, hn, rfl⟩ := List.mem_map.1 hw
    exact absurd rfl (hw2 n (hs n hn))
open Classical in
theorem matched {q at_ : Nat} (hq : 20 ≤ q) (hat : at_ ≤ 1000) {kd : Int} (hk : 1 ≤ kd ∧ kd ≤ 12) {ns : List Int} (hs : ∀ n ∈ ns, Small n) (hlen : ns.length ≤ 1999999) (hm : ns.length < q) (m : Nat) :
    (∃ a b p r, OkN kd a b p r at_ ∧ ns = numsX kd a b p r ∧ ∀ (α : Type) (K : Bool → Int → Int → Int → Int → Int → Option α) (K2 : Option α), rdL q at_ (wordB kd :: ns.map fmtI) K K2 (m + 1) kd = K true kd a b p r) ∨
    ((∀ a b p r, OkN kd a b p r at_ → ns ≠ numsX kd a b p r) ∧ ∃ kd' a b p r, ∀ (α : Type) (K : Bool → Int → Int → Int → Int → Int → Option α) (K2 : Option α), rdL q at_ (wordB kd :: ns.map fmtI) K K2 (m + 1) kd = K false kd' a b p r) := by
  have hw0 : ∀ (v1 v2 v3 v4 v5 v6 v7 u1 u2 u3 u4 u5 : Int) (α : Type) (kF : Option α) (kT : List Int → Option α), g70l2 (g104 q) v1 v2 v3 v4 v5 v6 v7 (wordB kd :: ns.map fmtI) u1 u2 u3 u4 u5 kF kT q 1 [] = kT ns := wdOk hq hs hlen hm
  have hv : (0 : Int) ≤ (at_ : Int) ∧ (at_ : Int) ≤ 2000000 := ⟨by omega, by omega⟩
  have hz : (-32768 : Int) ≤ 0 ∧ (0 : Int) ≤ 32767 := by decide
  have hwr : IntKind.wrap .i64 ((at_ : Int) - 1) = (at_ : Int) - 1 := wrapI (by omega) (by omega)
  by_cases h1 : kd = 1
  · subst h1
    have ho : one1 1 = false := by decide
    have ht : two 1 = false := by decide
    rcases ns with _ | ⟨x, _ | ⟨y, _ | ⟨z, r⟩⟩⟩
    · refine .inr ⟨fun a b p r _ e => by simp [numsX, ho, ht] at e, 0, 0, 0, 0, 0, fun α K K2 => ?_⟩
      unfold rdL
      rw [g70l0_s, dT (by omega), cond_true, if_pos ⟨by omega, by rw [List.length_cons]; omega⟩, if_pos (by rw [List.length_cons]; omega), if_pos ⟨by omega, by omega⟩, if_pos (by omega), wordW, List.getD_cons_zero, bytesEq_iff.2 rfl, Bool.not_true, cond_false, hw0]
      simp [g105L, g106L, g76L, hwr, ho, ht, hL1, hL2]
    · refine .inr ⟨fun a b p r _ e => by simp [numsX, ho, ht] at e, 0, 0, 0, 0, 0, fun α K K2 => ?_⟩
      unfold rdL
      rw [g70l0_s, dT (by omega), cond_true, if_pos ⟨by omega, by rw [List.length_cons]; omega⟩, if_pos (by rw [List.length_cons]; omega), if_pos ⟨by omega, by omega⟩, if_pos (by omega), wordW, List.getD_cons_zero, bytesEq_iff.2 rfl, Bool.not_true, cond_false, hw0]
      simp [g105L, g106L, g76L, hwr, ho, ht, hL1, hL2]
    · have hgo : ∀ (α : Type) (K : Bool → Int → Int → Int → Int → Int → Option α) (K2 : Option α), rdL q at_ (wordB 1 :: [x, y].map fmtI) K K2 (m + 1) 1 = K (decide (OkN 1 0 0 x y at_)) 1 0 0 x y := by
        intro α K K2
        unfold rdL
        rw [g70l0_s, dT (by omega), cond_true, if_pos ⟨by omega, by rw [List.length_cons]; omega⟩, if_pos (by rw [List.length_cons]; omega), if_pos ⟨by omega, by omega⟩, if_pos (by omega), wordW, List.getD_cons_zero, bytesEq_iff.2 rfl, Bool.not_true, cond_false, hw0]
        have hn := nodeV (α := α) q hv (kd := 1) (a := 0) (b := 0) (p := x) (q := y) hz hz (fun b222 => K b222 1 0 0 x y) (Classical.propDecidable _)
        simpa [g105L, g106L, g76L, hwr, ho, ht, hL1, hL2] using hn
      by_cases hok : OkN 1 0 0 x y at_
      · exact .inl ⟨0, 0, x, y, hok, rfl, fun α K K2 => by rw [hgo, decide_eq_true hok]⟩
      · refine .inr ⟨fun a b p r h e => ?_, 1, 0, 0, x, y, fun α K K2 => by rw [hgo, decide_eq_false hok]⟩
        simp [numsX] at e
        obtain ⟨rfl, rfl⟩ := e
        apply hok
        rcases h with h | h | h | h
        · obtain ⟨_, rfl, rfl, h⟩ := h
          exact .inl ⟨rfl, rfl, rfl, h⟩
        · omega
        · omega
        · omega
    · refine .inr ⟨fun a b p r _ e => by simp [numsX, ho, ht] at e, 0, 0, 0, 0, 0, fun α K K2 => ?_⟩
      unfold rdL
      rw [g70l0_s, dT (by omega), cond_true, if_pos ⟨by omega, by rw [List.length_cons]; omega⟩, if_pos (by rw [List.length_cons]; omega), if_pos ⟨by omega, by omega⟩, if_pos (by omega), wordW, List.getD_cons_zero, bytesEq_iff.2 rfl, Bool.not_true, cond_false, hw0]
      simp [g105L, g106L, g76L, hwr, ho, ht, hL1, hL2]
  by_cases ht : two kd = true
  · have h1' : (kd == (1 : Int)) = false := by simp [h1]
    have hd1 : decide (kd = 1) = false := dF h1
    have h11 : kd < 11 := by have := of_decide_eq_true ht; omega
    have ho : one1 kd = false := dF (by have := of_decide_eq_true ht; omega)
    have h2 : kd = 2 ∨ kd = 3 ∨ kd = 4 ∨ kd = 5 ∨ kd = 8 ∨ kd = 9 := by have := of_decide_eq_true ht; omega
    rcases ns with _ | ⟨x, _ | ⟨y, _ | ⟨z, r⟩⟩⟩
    · refine .inr ⟨fun a b p r _ e => by simp [numsX, ho, ht, hd1] at e, 0, 0, 0, 0, 0, fun α K K2 => ?_⟩
      unfold rdL
      rw [g70l0_s, dT (by omega), cond_true, if_pos ⟨by omega, by rw [List.length_cons]; omega⟩, if_pos (by rw [List.length_cons]; omega), if_pos ⟨by omega, by omega⟩, if_pos (by omega), wordW, List.getD_cons_zero, bytesEq_iff.2 rfl, Bool.not_true, cond_false, hw0]
      simp [h1', h11, g105L, g106L, g76L, hwr, ho, ht, hL1, hL2]
    · refine .inr ⟨fun a b p r _ e => by simp [numsX, ho, ht, hd1] at e, 0, 0, 0, 0, 0, fun α K K2 => ?_⟩
      unfold rdL
      rw [g70l0_s, dT (by omega), cond_true, if_pos ⟨by omega, by rw [List.length_cons]; omega⟩, if_pos (by rw [List.length_cons]; omega), if_pos ⟨by omega, by omega⟩, if_pos (by omega), wordW, List.getD_cons_zero, bytesEq_iff.2 rfl, Bool.not_true, cond_false, hw0]
      simp [h1', h11, g105L, g106L, g76L, hwr, ho, ht, hL1, hL2]
    · by_cases hx : 0 ≤ x ∧ x ≤ (at_ : Int) - 1
      case neg =>
        refine .inr ⟨fun a b p r h e => ?_, 0, 0, 0, 0, 0, fun α K K2 => ?_⟩
        · simp [numsX, hd1, ho, ht] at e
          obtain ⟨rfl, rfl⟩ := e
          rcases h with h | h | h | h <;> omega
        · unfold rdL
          rw [g70l0_s, dT (by omega), cond_true, if_pos ⟨by omega, by rw [List.length_cons]; omega⟩, if_pos (by rw [List.length_cons]; omega), if_pos ⟨by omega, by omega⟩, if_pos (by omega), wordW, List.getD_cons_zero, bytesEq_iff.2 rfl, Bool.not_true, cond_false, hw0]
          simp [h1', h11, g105L, g106L, g76L, hwr, ho, ht, hL1, hL2, decide_eq_false hx]
      by_cases hy : 0 ≤ y ∧ y ≤ (at_ : Int) - 1
      case neg =>
        refine .inr ⟨fun a b p r h e => ?_, 0, 0, 0, 0, 0, fun α K K2 => ?_⟩
        · simp [numsX, hd1, ho, ht] at e
          obtain ⟨rfl, rfl⟩ := e
          rcases h with h | h | h | h <;> omega
        · unfold rdL
          rw [g70l0_s, dT (by omega), cond_true, if_pos ⟨by omega, by rw [List.length_cons]; omega⟩, if_pos (by rw [List.length_cons]; omega), if_pos ⟨by omega, by omega⟩, if_pos (by omega), wordW, List.getD_cons_zero, bytesEq_iff.2 rfl, Bool.not_true, cond_false, hw0]
          simp [h1', h11, g105L, g106L, g76L, hwr, ho, ht, hL1, hL2, decide_eq_true hx, decide_eq_false hy]
      have hok : OkN kd x y 0 0 at_ := .inr (.inl ⟨by omega, by omega, by omega, by omega, by omega, rfl, rfl⟩)
      refine .inl ⟨x, y, 0, 0, hok, by simp [numsX, hd1, ht], fun α K K2 => ?_⟩
      unfold rdL
      rw [g70l0_s, dT (by omega), cond_true, if_pos ⟨by omega, by rw [List.length_cons]; omega⟩, if_pos (by rw [List.length_cons]; omega), if_pos ⟨by omega, by omega⟩, if_pos (by omega), wordW, List.getD_cons_zero, bytesEq_iff.2 rfl, Bool.not_true, cond_false, hw0]
      have hn := nodeV (α := α) q hv (kd := kd) (a := x) (b := y) (p := 0) (q := 0) (by omega) (by omega) (fun b222 => K b222 kd x y 0 0) (Classical.propDecidable _)
      rw [decide_eq_true hok] at hn
      have hwx : IntKind.wrap .i16 x = x := w16 (by omega) (by omega)
      have hwy : IntKind.wrap .i16 y = y := w16 (by omega) (by omega)
      simpa [h1', h11, g105L, g106L, g76L, hwr, ho, ht, hL1, hL2, decide_eq_true hx, decide_eq_true hy, hwx, hwy] using hn
    · refine .inr ⟨fun a b p r _ e => by simp [numsX, ho, ht, hd1] at e, 0, 0, 0, 0, 0, fun α K K2 => ?_⟩
      unfold rdL
      rw [g70l0_s, dT (by omega), cond_true, if_pos ⟨by omega, by rw [List.length_cons]; omega⟩, if_pos (by rw [List.length_cons]; omega), if_pos ⟨by omega, by omega⟩, if_pos (by omega), wordW, List.getD_cons_zero, bytesEq_iff.2 rfl, Bool.not_true, cond_false, hw0]
      simp [h1', h11, g105L, g106L, g76L, hwr, ho, ht, hL1, hL2]
  have ht : two kd = false := by simpa using ht
  by_cases ho : one1 kd = true
  · have h1' : (kd == (1 : Int)) = false := by simp [h1]
    have hd1 : decide (kd = 1) = false := dF h1
    have h11 : kd < 11 := by have := of_decide_eq_true ho; omega
    have h2 : kd = 6 ∨ kd = 7 ∨ kd = 10 := of_decide_eq_true ho
    rcases ns with _ | ⟨x, _ | ⟨y, _ | ⟨z, r⟩⟩⟩
    · refine .inr ⟨fun a b p r _ e => by simp [numsX, ho, ht, hd1] at e, 0, 0, 0, 0, 0, fun α K K2 => ?_⟩
      unfold rdL
      rw [g70l0_s, dT (by omega), cond_true, if_pos ⟨by omega, by rw [List.length_cons]; omega⟩, if_pos (by rw [List.length_cons]; omega), if_pos ⟨by omega, by omega⟩, if_pos (by omega), wordW, List.getD_cons_zero, bytesEq_iff.2 rfl, Bool.not_true, cond_false, hw0]
      simp [h1', h11, g105L, g106L, g76L, hwr, ho, ht, hL1, hL2]
    · by_cases hx : 0 ≤ x ∧ x ≤ (at_ : Int) - 1
      case neg =>
        refine .inr ⟨fun a b p r h e => ?_, 0, 0, 0, 0, 0, fun α K K2 => ?_⟩
        · simp [numsX, hd1, ho, ht] at e
          subst e
          rcases h with h | h | h | h <;> omega
        · unfold rdL
          rw [g70l0_s, dT (by omega), cond_true, if_pos ⟨by omega, by rw [List.length_cons]; omega⟩, if_pos (by rw [List.length_cons]; omega), if_pos ⟨by omega, by omega⟩, if_pos (by omega), wordW, List.getD_cons_zero, bytesEq_iff.2 rfl, Bool.not_true, cond_false, hw0]
          simp [h1', h11, g105L, g106L, g76L, hwr, ho, ht, hL1, hL2, decide_eq_false hx]
      have hok : OkN kd x 0 0 0 at_ := .inr (.inr (.inl ⟨by omega, by omega, by omega, rfl, rfl, rfl⟩))
      refine .inl ⟨x, 0, 0, 0, hok, by simp [numsX, hd1, ht, ho], fun α K K2 => ?_⟩
      unfold rdL
      rw [g70l0_s, dT (by omega), cond_true, if_pos ⟨by omega, by rw [List.length_cons]; omega⟩, if_pos (by rw [List.length_cons]; omega), if_pos ⟨by omega, by omega⟩, if_pos (by omega), wordW, List.getD_cons_zero, bytesEq_iff.2 rfl, Bool.not_true, cond_false, hw0]
      have hn := nodeV (α := α) q hv (kd := kd) (a := x) (b := 0) (p := 0) (q := 0) (by omega) hz (fun b222 => K b222 kd x 0 0 0) (Classical.propDecidable _)
      rw [decide_eq_true hok] at hn
      have hwx : IntKind.wrap .i16 x = x := w16 (by omega) (by omega)
      simpa [h1', h11, g105L, g106L, g76L, hwr, ho, ht, hL1, hL2, decide_eq_true hx, hwx] using hn
    · refine .inr ⟨fun a b p r _ e => by simp [numsX, ho, ht, hd1] at e, 0, 0, 0, 0, 0, fun α K K2 => ?_⟩
      unfold rdL
      rw [g70l0_s, dT (by omega), cond_true, if_pos ⟨by omega, by rw [List.length_cons]; omega⟩, if_pos (by rw [List.length_cons]; omega), if_pos ⟨by omega, by omega⟩, if_pos (by omega), wordW, List.getD_cons_zero, bytesEq_iff.2 rfl, Bool.not_true, cond_false, hw0]
      simp [h1', h11, g105L, g106L, g76L, hwr, ho, ht, hL1, hL2]
    · refine .inr ⟨fun a b p r _ e => by simp [numsX, ho, ht, hd1] at e, 0, 0, 0, 0, 0, fun α K K2 => ?_⟩
      unfold rdL
      rw [g70l0_s, dT (by omega), cond_true, if_pos ⟨by omega, by rw [List.length_cons]; omega⟩, if_pos (by rw [List.length_cons]; omega), if_pos ⟨by omega, by omega⟩, if_pos (by omega), wordW, List.getD_cons_zero, bytesEq_iff.2 rfl, Bool.not_true, cond_false, hw0]
      simp [h1', h11, g105L, g106L, g76L, hwr, ho, ht, hL1, hL2]
  have ho : one1 kd = false := by simpa using ho
  have h1' : (kd == (1 : Int)) = false := by simp [h1]
  have hd1 : decide (kd = 1) = false := dF h1
  have h2 : kd = 11 ∨ kd = 12 := by
    have a1 : ¬ (2 ≤ kd ∧ kd ≤ 5 ∨ kd = 8 ∨ kd = 9) := of_decide_eq_false ht
    have a2 : ¬ (kd = 6 ∨ kd = 7 ∨ kd = 10) := of_decide_eq_false ho
    omega
  have h11 : ¬ kd < 11 := by omega
  rcases ns with _ | ⟨x, r⟩
  · have hok : OkN kd 0 0 0 0 at_ := .inr (.inr (.inr ⟨h2, rfl, rfl, rfl, rfl⟩))
    refine .inl ⟨0, 0, 0, 0, hok, by simp [numsX, hd1, ht, ho], fun α K K2 => ?_⟩
    unfold rdL
    rw [g70l0_s, dT (by omega), cond_true, if_pos ⟨by omega, by rw [List.length_cons]; omega⟩, if_pos (by rw [List.length_cons]; omega), if_pos ⟨by omega, by omega⟩, if_pos (by omega), wordW, List.getD_cons_zero, bytesEq_iff.2 rfl, Bool.not_true, cond_false, hw0]
    have hn := nodeV (α := α) q hv (kd := kd) (a := 0) (b := 0) (p := 0) (q := 0) hz hz (fun b222 => K b222 kd 0 0 0 0) (Classical.propDecidable _)
    rw [decide_eq_true hok] at hn
    simpa [h1', h11, g105L, g106L, g76L, hwr, ho, ht, hL1, hL2] using hn
  · refine .inr ⟨fun a b p r' _ e => by simp [numsX, ho, ht, hd1] at e, 0, 0, 0, 0, 0, fun α K K2 => ?_⟩
    unfold rdL
    rw [g70l0_s, dT (by omega), cond_true, if_pos ⟨by omega, by rw [List.length_cons]; omega⟩, if_pos (by rw [List.length_cons]; omega), if_pos ⟨by omega, by omega⟩, if_pos (by omega), wordW, List.getD_cons_zero, bytesEq_iff.2 rfl, Bool.not_true, cond_false, hw0]
    simp [h1', h11, g105L, g106L, g76L, hwr, ho, ht, hL1, hL2]
theorem nums_small {kd a b p q v : Int} (h : OkN kd a b p q v) (hv : v ≤ 2000) : ∀ n ∈ numsX kd a b p q, Small n := by
  obtain ⟨_, p1, p2, q1, q2, a1, a2, b1, b2⟩ := okN_cases h hv
  have hp : Small p := ⟨by omega, by omega⟩
  have hq : Small q := ⟨by omega, by omega⟩
  have ha : Small a := ⟨by omega, by omega⟩
  have hb : Small b := ⟨by omega, by omega⟩
  intro n hn
  unfold numsX at hn
  cases h1 : decide (kd = 1) <;> rw [h1] at hn
  · rw [cond_false] at hn
    cases h2 : two kd <;> rw [h2] at hn
    · rw [cond_false] at hn
      cases h3 : one1 kd <;> rw [h3] at hn
      · cases hn
      · simp at hn; subst hn; exact ha
    · simp at hn; rcases hn with rfl | rfl
      · exact ha
      · exact hb
  · simp at hn; rcases hn with rfl | rfl
    · exact hp
    · exact hq
theorem okN_kd {kd a b p q v : Int} (h : OkN kd a b p q v) : ∃ k : Nat, kd = (k : Int) ∧ 1 ≤ k ∧ k ≤ 12 := by
  have : 1 ≤ kd ∧ kd ≤ 12 := by rcases h with h | h | h | h <;> omega
  obtain ⟨k, rfl⟩ := Int.eq_ofNat_of_zero_le (show 0 ≤ kd by omega)
  exact ⟨k, rfl, by omega, by omega⟩
theorem splitQ_cons (z : ByteArray) (c : UInt8) : ∃ w r, splitQ z c = w :: r ∧ r.length ≤ z.size := by
  have h := splitQ_len z c
  cases hq : splitQ z c with
  | nil => rw [hq] at h; simp at h
  | cons w r =>
    refine ⟨w, r, rfl, ?_⟩
    rw [hq, List.length_cons] at h
    have := List.count_le_length (a := c) (l := z.data.toList)
    have h2 : z.data.toList.length = z.size := by simp
    omega
theorem readL {m : Nat} (hm : 1048576 < m) {z : ByteArray} (hz : z.size ≤ 1048576) {at_ : Nat} (hat : at_ ≤ 1000) :
    (∃ kd a b p r, OkN kd a b p r at_ ∧ splitQ z 32 = wordsX kd a b p r ∧ ∀ (α : Type) (k : Int → Int → Int → Int → Int → Bool → Option α), g70 m z (at_ : Int) k = k kd a b p r true) ∨
    ((∀ kd a b p r, OkN kd a b p r at_ → splitQ z 32 ≠ wordsX kd a b p r) ∧ ∃ kd a b p r, ∀ (α : Type) (k : Int → Int → Int → Int → Int → Bool → Option α), g70 m z (at_ : Int) k = k kd a b p r false) := by
  obtain ⟨w0, r, hws, hr⟩ := splitQ_cons z 32
  have hgo : ∀ (α : Type) (k : Int → Int → Int → Int → Int → Bool → Option α), g70 m z (at_ : Int) k = rdL m at_ (w0 :: r) (fun b x1 x2 x3 x4 x5 => k x1 x2 x3 x4 x5 b) (k 0 0 0 0 0 false) m ((1 : Nat) : Int) := by
    intro α k
    rw [g70_o]
    have := splitSpec (α := α) hm hz 32 (fun l73 => g103 m (fun l75 => g70l0 (g104 m) (g77 m) (g105 m) (g76 m) (g106 m) (g70l2M m) (at_ : Int) 0 13 13 0 0 0 0 0 l73 l75 (fun b x1 x2 x3 x4 x5 => k x1 x2 x3 x4 x5 b) (k 0 0 0 0 0 false) m (1 : Int)))
    rw [wordsL, hws] at this
    exact this
  rw [hws]
  rcases kinds (q := m) (at_ := at_) (w0 := w0) (r := r) 12 1 m (by omega) (by omega) (by omega) with ⟨kd, m', g1, g2, g3, g4⟩ | ⟨g1, g2⟩
  · rcases wdLoop (q := m) (by omega) (w0 :: r) (at_ : Int) (kd : Int) 0 0 0 0 0 (kd : Int) 0 0 0 0 r 1 m [] rfl (by omega) (by omega) (by simp) with ⟨ns, e1, e2, e3⟩ | ⟨⟨w, hw, hw2⟩, e3⟩
    · subst e2
      rw [List.length_map] at hr
      rw [g3] at hgo g4 ⊢
      rcases matched (q := m) (at_ := at_) (by omega) hat (kd := (kd : Int)) ⟨by omega, by omega⟩ e1 (by omega) (by omega) m' with ⟨a, b, p, r, h1, h2, h3⟩ | ⟨h1, kd', a, b, p, r, h3⟩
      · exact .inl ⟨kd, a, b, p, r, h1, by unfold wordsX; rw [h2], fun α k => by rw [hgo, g4, h3]⟩
      · refine .inr ⟨fun kd2 a2 b2 p2 r2 ho e => ?_, kd', a, b, p, r, fun α k => by rw [hgo, g4, h3]⟩
        obtain ⟨k2, rfl, k3, k4⟩ := okN_kd ho
        unfold wordsX at e
        injection e with e4 e5
        obtain rfl := wordB_inj ⟨g1, g2⟩ ⟨k3, k4⟩ e4
        exact h1 a2 b2 p2 r2 ho (map_inj e1 (nums_small ho (by omega)) e5)
    · refine .inr ⟨fun kd2 a2 b2 p2 r2 ho e => ?_, 0, 0, 0, 0, 0, fun α k => ?_⟩
      · unfold wordsX at e
        injection e with e4 e5
        rw [e5] at hw
        obtain ⟨n, hn, rfl⟩ := List.mem_map.1 hw
        exact hw2 n (nums_small ho (by omega) n hn) rfl
      · rw [hgo, g4]
        unfold rdL
        rw [g70l0_s, dT (by omega), cond_true, if_pos ⟨by omega, by rw [List.length_cons]; omega⟩, if_pos (by rw [List.length_cons]; omega), if_pos ⟨by omega, by omega⟩, if_pos (by omega), wordW, List.getD_cons_zero, ← g3, bytesEq_iff.2 rfl, Bool.not_true, cond_false]
        exact e3 α _ _
  · refine .inr ⟨fun kd2 a2 b2 p2 r2 ho e => ?_, 0, 0, 0, 0, 0, fun α k => by rw [hgo, g2]⟩
    obtain ⟨k2, rfl, k3, k4⟩ := okN_kd ho
    unfold wordsX at e
    injection e with e4 e5
    exact g1 k2 k3 k4 e4
theorem idx16 {m : Nat} (hm : 4 ≤ m) {w : ByteArray} (hsz : w.size ≤ 281474976710656) :
    (∃ n : Int, 0 ≤ n ∧ n ≤ 1000 ∧ w = fmtI n ∧ ∀ (α : Type) (k : Int → Option α), g75 m w k = k n) ∨ ((∀ n : Int, 0 ≤ n → n ≤ 1000 → w ≠ fmtI n) ∧ ∀ (α : Type) (k : Int → Option α), g75 m w k = k (-1)) := by
  rcases integerL hm hsz with ⟨n, h1, h2, h3⟩ | ⟨h1, v, h3⟩
  · by_cases hr : 0 ≤ n ∧ n ≤ 1000
    · refine .inl ⟨n, hr.1, hr.2, h2, fun α k => ?_⟩
      rw [g75_o, h3, Bool.not_true, cond_false, g111L, decide_eq_true hr, Bool.not_true, cond_false, w16 (by omega) (by omega)]
    · refine .inr ⟨fun n' a b e => ?_, fun α k => ?_⟩
      · have := fmtI_inj h1.1 h1.2 (by omega) (by omega) (h2.symm.trans e)
        omega
      · rw [g75_o, h3, Bool.not_true, cond_false, g111L, decide_eq_false hr, Bool.not_false, cond_true]
  · exact .inr ⟨fun n a b => h1 n ⟨by omega, by omega⟩, fun α k => by rw [g75_o, h3, Bool.not_false, cond_true]⟩
theorem kwLoop {q : Nat} {w : ByteArray} : ∀ (d v m : Nat), v + d = 13 → 1 ≤ v → d < m →
    (∃ kd : Nat, v ≤ kd ∧ kd ≤ 12 ∧ w = wordB kd ∧ ∀ (α : Type) (K : Int → Option α) (K2 : Option α), g108l0 (g82 q) w K K2 m (v : Int) = K (kd : Int)) ∨
    ((∀ kd : Nat, v ≤ kd → kd ≤ 12 → w ≠ wordB kd) ∧ ∀ (α : Type) (K : Int → Option α) (K2 : Option α), g108l0 (g82 q) w K K2 m (v : Int) = K2)
  | 0, v, m, h, h1, hm => by
    obtain ⟨m, rfl⟩ : ∃ n, m = n + 1 := ⟨m - 1, by omega⟩
    exact .inr ⟨fun kd a b => by omega, fun α K K2 => by rw [g108l0_s, dF (by omega), cond_false]⟩
  | d + 1, v, m, h, h1, hm => by
    obtain ⟨m, rfl⟩ : ∃ n, m = n + 1 := ⟨m - 1, by omega⟩
    by_cases he : w = wordB v
    · exact .inl ⟨v, by omega, by omega, he, fun α K K2 => by rw [g108l0_s, dT (by omega), cond_true, kwL q (by omega), bytesEq_iff.2 he.symm, cond_true]⟩
    · have hb : bytesEq (wordB v) w = false := by
        cases hc : bytesEq (wordB v) w with
        | false => rfl
        | true => exact absurd (bytesEq_iff.1 hc).symm he
      have hstep : ∀ (α : Type) (K : Int → Option α) (K2 : Option α), g108l0 (g82 q) w K K2 (m + 1) (v : Int) = g108l0 (g82 q) w K K2 m ((v + 1 : Nat) : Int) := by
        intro α K K2
        rw [g108l0_s, dT (by omega), cond_true, kwL q (by omega), hb, cond_false, wrapK (by omega)]
      rcases kwLoop (q := q) (w := w) d (v + 1) m (by omega) (by omega) (by omega) with ⟨kd, g1, g2, g3, g4⟩ | ⟨g1, g2⟩
      · exact .inl ⟨kd, by omega, g2, g3, fun α K K2 => by rw [hstep, g4]⟩
      · refine .inr ⟨fun kd a b => ?_, fun α K K2 => by rw [hstep, g2]⟩
        by_cases e : kd = v
        · subst e; exact he
        · exact g1 kd (by omega) b
theorem kindOfL {m : Nat} (hm : 20 ≤ m) (w : ByteArray) : (∃ kd : Nat, 1 ≤ kd ∧ kd ≤ 12 ∧ w = wordB kd ∧ ∀ (α : Type) (k : Int → Option α), g108 m w k = k (kd : Int)) ∨
    ((∀ kd : Nat, 1 ≤ kd → kd ≤ 12 → w ≠ wordB kd) ∧ ∀ (α : Type) (k : Int → Option α), g108 m w k = k 0) := by
  rcases kwLoop (q := m) (w := w) 12 1 m (by omega) (by omega) (by omega) with ⟨kd, g1, g2, g3, g4⟩ | ⟨g1, g2⟩
  · exact .inl ⟨kd, g1, g2, g3, fun α k => by rw [g108_o]; exact g4 α _ _⟩
  · exact .inr ⟨g1, fun α k => by rw [g108_o]; exact g2 α _ _⟩
abbrev ndB {α : Type} (m n : Nat) (ws : List ByteArray) (kF : Option α) (F : List Int → Option α) : Option α :=
  g72 m 0 n n n ws (fun x994 x995 x996 s997 s998 b999 => cond (!b999) kF (g74 m x994 (fun b1001 b1002 b1003 => cond b1001
    (g75 m s997 (fun x1012 => cond b1002 (g75 m s998 (fun x1013 => F [x994, x1012, x1013, x995, x996])) (F [x994, x1012, (0 : Int), x995, x996])))
    (cond b1002 (g75 m s998 (fun x1018 => F [x994, (0 : Int), x1018, x995, x996])) (F [x994, (0 : Int), (0 : Int), x995, x996])))))
structure Nd (kd a b p r : Int) : Prop where
  rk : -128 ≤ kd ∧ kd ≤ 127
  ra : -32768 ≤ a ∧ a ≤ 32767
  rb : -32768 ≤ b ∧ b ≤ 32767
  rp : I64 p
  rr : I64 r
structure NdW (ws : List ByteArray) (kd a b p r : Int) : Prop extends Nd kd a b p r where
  to : ∀ v : Int, v ≤ 1000 → OkN kd a b p r v → ws = wordsX kd a b p r
  only : ∀ (v kd' a' b' p' r' : Int), v ≤ 1000 → OkN kd' a' b' p' r' v → ws = wordsX kd' a' b' p' r' → kd' = kd ∧ a' = a ∧ b' = b ∧ p' = p ∧ r' = r
theorem nodeL {m : Nat} (hm : 20 ≤ m) {ws : List ByteArray} {w0 : ByteArray} {rr : List ByteArray} (hws : ws = w0 :: rr) (hsz : ∀ w ∈ ws, w.size ≤ 281474976710656) :
    (∃ kd a b p r, NdW ws kd a b p r ∧ ∀ (α : Type) (kF : Option α) (F : List Int → Option α), ndB m ws.length ws kF F = F [kd, a, b, p, r]) ∨
    ((∀ (v kd a b p r : Int), v ≤ 1000 → OkN kd a b p r v → ws ≠ wordsX kd a b p r) ∧ ∀ (α : Type) (kF : Option α) (F : List Int → Option α), ndB m ws.length ws kF F = kF) := by
  subst hws
  rcases kindOfL hm w0 with ⟨kd, k1, k2, rfl, hk⟩ | ⟨h1, hk⟩
  case inr =>
    refine .inr ⟨fun v kd a b p r hv ho e => ?_, fun α kF F => ?_⟩
    · obtain ⟨k2, rfl, k3, k4⟩ := okN_kd ho
      unfold wordsX at e
      injection e with e4 e5
      exact h1 k2 k3 k4 e4
    · unfold ndB
      rw [g72_o, if_pos ⟨by omega, by rw [List.length_cons]; omega⟩, if_pos (by rw [List.length_cons]; omega), List.getD_cons_zero, hk]
      simp [g74L, show two 0 = false from by decide, show one1 0 = false from by decide]
  have hkd : ∀ {v kd' a' b' p' r' : Int}, OkN kd' a' b' p' r' v → wordB kd :: rr = wordsX kd' a' b' p' r' → kd' = (kd : Int) ∧ rr = (numsX kd a' b' p' r').map fmtI := by
    intro v kd' a' b' p' r' ho e
    obtain ⟨k5, rfl, k3, k4⟩ := okN_kd ho
    unfold wordsX at e
    injection e with e4 e5
    obtain rfl := wordB_inj ⟨k1, k2⟩ ⟨k3, k4⟩ e4
    exact ⟨rfl, e5⟩
  have hkr : (-128 : Int) ≤ (kd : Int) ∧ (kd : Int) ≤ 127 := ⟨by omega, by omega⟩
  have hz6 : (-32768 : Int) ≤ 0 ∧ (0 : Int) ≤ 32767 := by decide
  have hz64 : I64 0 := by constructor <;> decide
  have hk0 : ((kd : Int) == 0) = false := by rw [beq_eq_false_iff_ne]; omega
  have hgo : ∀ (α : Type) (kF : Option α) (F : List Int → Option α), True := fun _ _ _ => trivial
  by_cases h1 : kd = 1
  · subst h1
    have ho : one1 ((1 : Nat) : Int) = false := by decide
    have ht : two ((1 : Nat) : Int) = false := by decide
    have hd : decide (((1 : Nat) : Int) = 1) = true := by decide
    by_cases hl : rr.length = 2
    · obtain ⟨w1, w2, rfl⟩ : ∃ w1 w2, rr = [w1, w2] := by
        match rr, hl with
        | [w1, w2], _ => exact ⟨w1, w2, rfl⟩
      have hgo : ∀ (α : Type) (kF : Option α) (F : List Int → Option α), ndB m [wordB ((1 : Nat) : Int), w1, w2].length [wordB ((1 : Nat) : Int), w1, w2] kF F = g109 m w1 (fun x c => g109 m w2 (fun y d => cond (c && d) (F [1, 0, 0, x, y]) kF)) := by
        intro α kF F
        unfold ndB
        rw [g72_o, if_pos ⟨by omega, by rw [List.length_cons]; omega⟩, if_pos (by rw [List.length_cons]; omega), List.getD_cons_zero, hk]
        simp [g74L, show two 1 = false from ht, show one1 1 = false from ho]
        congr 1
        funext x c
        congr 1
        funext y d
        cases c <;> cases d <;> rfl
      have hnum : ∀ {a' b' p' r' : Int}, [w1, w2] = (numsX ((1 : Nat) : Int) a' b' p' r').map fmtI → w1 = fmtI p' ∧ w2 = fmtI r' := by
        intro a' b' p' r' e
        unfold numsX at e
        rw [hd] at e
        simpa using e
      rcases integerL (m := m) (by omega) (hsz w1 (by simp)) with ⟨n1, a1, a2, a3⟩ | ⟨a1, v1, a3⟩
      · rcases integerL (m := m) (by omega) (hsz w2 (by simp)) with ⟨n2, b1, b2, b3⟩ | ⟨b1, v2, b3⟩
        · refine .inl ⟨1, 0, 0, n1, n2, ⟨⟨by decide, hz6, hz6, a1, b1⟩, fun v hv ho' => by unfold wordsX numsX; rw [a2, b2]; rfl, fun v kd' a' b' p' r' hv ho' e => ?_⟩, fun α kF F => by rw [hgo, a3, b3]; rfl⟩
          obtain ⟨rfl, e2⟩ := hkd ho' e
          obtain ⟨e3, e4⟩ := hnum e2
          obtain ⟨_, p1, p2, q1, q2, _⟩ := okN_cases ho' (by omega)
          have := fmtI_inj a1.1 a1.2 (by omega) (by omega) (a2.symm.trans e3)
          have := fmtI_inj b1.1 b1.2 (by omega) (by omega) (b2.symm.trans e4)
          rcases ho' with h | h | h | h <;> omega
        · refine .inr ⟨fun v kd' a' b' p' r' hv ho' e => ?_, fun α kF F => by rw [hgo, a3, b3]; rfl⟩
          obtain ⟨rfl, e2⟩ := hkd ho' e
          obtain ⟨_, p1, p2, q1, q2, _⟩ := okN_cases ho' (by omega)
          exact b1 r' ⟨by omega, by omega⟩ (hnum e2).2
      · refine .inr ⟨fun v kd' a' b' p' r' hv ho' e => ?_, fun α kF F => ?_⟩
        · obtain ⟨rfl, e2⟩ := hkd ho' e
          obtain ⟨_, p1, p2, q1, q2, _⟩ := okN_cases ho' (by omega)
          exact a1 p' ⟨by omega, by omega⟩ (hnum e2).1
        · rw [hgo, a3]
          rcases integerL (m := m) (by omega) (hsz w2 (by simp)) with ⟨n2, b1, b2, b3⟩ | ⟨b1, v2, b3⟩ <;> (rw [b3]; rfl)
    · refine .inr ⟨fun v kd' a' b' p' r' hv ho' e => ?_, fun α kF F => ?_⟩
      · obtain ⟨rfl, e2⟩ := hkd ho' e
        have := congrArg List.length e2
        unfold numsX at this
        rw [hd] at this
        simp at this
        exact hl this
      · unfold ndB
        rw [g72_o, if_pos ⟨by omega, by rw [List.length_cons]; omega⟩, if_pos (by rw [List.length_cons]; omega), List.getD_cons_zero, hk]
        have hne : (((rr.length : Nat) : Int) + 1 != 3) = true := by simp; omega
        simp [g74L, show two 1 = false from ht, show one1 1 = false from ho, hne]
  have hd1 : decide (((kd : Nat) : Int) = 1) = false := dF (by omega)
  by_cases ht : two (kd : Int) = true
  · have ho : one1 (kd : Int) = false := dF (by have := of_decide_eq_true ht; omega)
    have h2 : (2 ≤ (kd : Int) ∧ (kd : Int) ≤ 5 ∨ (kd : Int) = 8 ∨ (kd : Int) = 9) := of_decide_eq_true ht
    have hdn : ¬ (kd : Int) = 1 := by omega
    by_cases hl : rr.length = 2
    · obtain ⟨w1, w2, rfl⟩ : ∃ w1 w2, rr = [w1, w2] := by
        match rr, hl with
        | [w1, w2], _ => exact ⟨w1, w2, rfl⟩
      have hgo : ∀ (α : Type) (kF : Option α) (F : List Int → Option α), ndB m [wordB (kd : Int), w1, w2].length [wordB (kd : Int), w1, w2] kF F = g75 m w1 (fun x => g75 m w2 (fun y => F [(kd : Int), x, y, 0, 0])) := by
        intro α kF F
        unfold ndB
        rw [g72_o, if_pos ⟨by omega, by rw [List.length_cons]; omega⟩, if_pos (by rw [List.length_cons]; omega), List.getD_cons_zero, hk]
        simp [g74L, ht, ho, hd1, hk0, hdn]
      have hnum : ∀ {a' b' p' r' : Int}, [w1, w2] = (numsX (kd : Int) a' b' p' r').map fmtI → w1 = fmtI a' ∧ w2 = fmtI b' := by
        intro a' b' p' r' e
        unfold numsX at e
        rw [hd1, ht] at e
        simpa using e
      have hrest : ∀ {v a' b' p' r' : Int}, v ≤ 1000 → OkN (kd : Int) a' b' p' r' v → (0 ≤ a' ∧ a' ≤ 1000) ∧ (0 ≤ b' ∧ b' ≤ 1000) ∧ p' = 0 ∧ r' = 0 := by
        intro v a' b' p' r' hv h
        rcases h with h | h | h | h <;> omega
      obtain ⟨x, hx1, hx2, hx3, hx4⟩ : ∃ x : Int, (-32768 ≤ x ∧ x ≤ 32767) ∧ (0 ≤ x → w1 = fmtI x) ∧ (∀ n : Int, 0 ≤ n → n ≤ 1000 → w1 = fmtI n → n = x) ∧ ∀ (α : Type) (k : Int → Option α), g75 m w1 k = k x := by
        rcases idx16 (m := m) (by omega) (hsz w1 (by simp)) with ⟨n, a1, a2, a3, a4⟩ | ⟨a1, a4⟩
        · exact ⟨n, ⟨by omega, by omega⟩, fun _ => a3, fun n' c1 c2 c3 => fmtI_inj (by omega) (by omega) (by omega) (by omega) (c3.symm.trans a3), a4⟩
        · exact ⟨-1, by decide, fun h => absurd h (by decide), fun n' c1 c2 c3 => absurd c3 (a1 n' c1 c2), a4⟩
      obtain ⟨y, hy1, hy2, hy3, hy4⟩ : ∃ x : Int, (-32768 ≤ x ∧ x ≤ 32767) ∧ (0 ≤ x → w2 = fmtI x) ∧ (∀ n : Int, 0 ≤ n → n ≤ 1000 → w2 = fmtI n → n = x) ∧ ∀ (α : Type) (k : Int → Option α), g75 m w2 k = k x := by
        rcases idx16 (m := m) (by omega) (hsz w2 (by simp)) with ⟨n, a1, a2, a3, a4⟩ | ⟨a1, a4⟩
        · exact ⟨n, ⟨by omega, by omega⟩, fun _ => a3, fun n' c1 c2 c3 => fmtI_inj (by omega) (by omega) (by omega) (by omega) (c3.symm.trans a3), a4⟩
        · exact ⟨-1, by decide, fun h => absurd h (by decide), fun n' c1 c2 c3 => absurd c3 (a1 n' c1 c2), a4⟩
      refine .inl ⟨kd, x, y, 0, 0, ⟨⟨hkr, hx1, hy1, hz64, hz64⟩, fun v hv ho' => ?_, fun v kd' a' b' p' r' hv ho' e => ?_⟩, fun α kF F => by rw [hgo, hx4, hy4]⟩
      · obtain ⟨c1, c2, _⟩ := hrest hv ho'
        unfold wordsX numsX
        rw [hd1, ht, hx2 c1.1, hy2 c2.1]; rfl
      · obtain ⟨rfl, e2⟩ := hkd ho' e
        obtain ⟨c1, c2, c3, c4⟩ := hrest hv ho'
        exact ⟨rfl, hx3 a' c1.1 c1.2 (hnum e2).1, hy3 b' c2.1 c2.2 (hnum e2).2, c3, c4⟩
    · refine .inr ⟨fun v kd' a' b' p' r' hv ho' e => ?_, fun α kF F => ?_⟩
      · obtain ⟨rfl, e2⟩ := hkd ho' e
        have := congrArg List.length e2
        unfold numsX at this
        rw [hd1, ht] at this
        simp at this
        exact hl this
      · unfold ndB
        rw [g72_o, if_pos ⟨by omega, by rw [List.length_cons]; omega⟩, if_pos (by rw [List.length_cons]; omega), List.getD_cons_zero, hk]
        have hne : (((rr.length : Nat) : Int) + 1 != 3) = true := by simp; omega
        simp [g74L, ht, ho, hd1, hk0, hdn, hne]
  have ht : two (kd : Int) = false := by simpa using ht
  have hdn : ¬ (kd : Int) = 1 := by omega
  by_cases ho : one1 (kd : Int) = true
  · have h2 : (kd : Int) = 6 ∨ (kd : Int) = 7 ∨ (kd : Int) = 10 := of_decide_eq_true ho
    by_cases hl : rr.length = 1
    · obtain ⟨w1, rfl⟩ : ∃ w1, rr = [w1] := by
        match rr, hl with
        | [w1], _ => exact ⟨w1, rfl⟩
      have hgo : ∀ (α : Type) (kF : Option α) (F : List Int → Option α), ndB m [wordB (kd : Int), w1].length [wordB (kd : Int), w1] kF F = g75 m w1 (fun x => F [(kd : Int), x, 0, 0, 0]) := by
        intro α kF F
        unfold ndB
        rw [g72_o, if_pos ⟨by omega, by rw [List.length_cons]; omega⟩, if_pos (by rw [List.length_cons]; omega), List.getD_cons_zero, hk]
        simp [g74L, ht, ho, hd1, hk0, hdn]
      have hnum : ∀ {a' b' p' r' : Int}, [w1] = (numsX (kd : Int) a' b' p' r').map fmtI → w1 = fmtI a' := by
        intro a' b' p' r' e
        unfold numsX at e
        rw [hd1, ht, ho] at e
        simpa using e
      have hrest : ∀ {v a' b' p' r' : Int}, v ≤ 1000 → OkN (kd : Int) a' b' p' r' v → (0 ≤ a' ∧ a' ≤ 1000) ∧ b' = 0 ∧ p' = 0 ∧ r' = 0 := by
        intro v a' b' p' r' hv h
        rcases h with h | h | h | h <;> omega
      obtain ⟨x, hx1, hx2, hx3, hx4⟩ : ∃ x : Int, (-32768 ≤ x ∧ x ≤ 32767) ∧ (0 ≤ x → w1 = fmtI x) ∧ (∀ n : Int, 0 ≤ n → n ≤ 1000 → w1 = fmtI n → n = x) ∧ ∀ (α : Type) (k : Int → Option α), g75 m w1 k = k x := by
        rcases idx16 (m := m) (by omega) (hsz w1 (by simp)) with ⟨n, a1, a2, a3, a4⟩ | ⟨a1, a4⟩
        · exact ⟨n, ⟨by omega, by omega⟩, fun _ => a3, fun n' c1 c2 c3 => fmtI_inj (by omega) (by omega) (by omega) (by omega) (c3.symm.trans a3), a4⟩
        · exact ⟨-1, by decide, fun h => absurd h (by decide), fun n' c1 c2 c3 => absurd c3 (a1 n' c1 c2), a4⟩
      refine .inl ⟨kd, x, 0, 0, 0, ⟨⟨hkr, hx1, hz6, hz64, hz64⟩, fun v hv ho' => ?_, fun v kd' a' b' p' r' hv ho' e => ?_⟩, fun α kF F => by rw [hgo, hx4]⟩
      · obtain ⟨c1, c2⟩ := hrest hv ho'
        unfold wordsX numsX
        rw [hd1, ht, ho, hx2 c1.1]; rfl
      · obtain ⟨rfl, e2⟩ := hkd ho' e
        obtain ⟨c1, c2, c3, c4⟩ := hrest hv ho'
        exact ⟨rfl, hx3 a' c1.1 c1.2 (hnum e2), c2, c3, c4⟩
    · refine .inr ⟨fun v kd' a' b' p' r' hv ho' e => ?_, fun α kF F => ?_⟩
      · obtain ⟨rfl, e2⟩ := hkd ho' e
        have := congrArg List.length e2
        unfold numsX at this
        rw [hd1, ht, ho] at this
        simp at this
        exact hl (by rw [this])
      · unfold ndB
        rw [g72_o, if_pos ⟨by omega, by rw [List.length_cons]; omega⟩, if_pos (by rw [List.length_cons]; omega), List.getD_cons_zero, hk]
        have hne : (((rr.length : Nat) : Int) + 1 != 2) = true := by simp; omega
        simp [g74L, ht, ho, hd1, hk0, hdn, hne]
  have ho : one1 (kd : Int) = false := by simpa using ho
  by_cases hl : rr = []
  · subst hl
    refine .inl ⟨kd, 0, 0, 0, 0, ⟨⟨hkr, hz6, hz6, hz64, hz64⟩, fun v hv ho' => ?_, fun v kd' a' b' p' r' hv ho' e => ?_⟩, fun α kF F => ?_⟩
    · unfold wordsX numsX
      rw [hd1, ht, ho]; rfl
    · obtain ⟨rfl, e2⟩ := hkd ho' e
      have a1 : ¬ (2 ≤ (kd : Int) ∧ (kd : Int) ≤ 5 ∨ (kd : Int) = 8 ∨ (kd : Int) = 9) := of_decide_eq_false ht
      have a2 : ¬ ((kd : Int) = 6 ∨ (kd : Int) = 7 ∨ (kd : Int) = 10) := of_decide_eq_false ho
      rcases ho' with h | h | h | h <;> omega
    · unfold ndB
      rw [g72_o, if_pos ⟨by omega, by rw [List.length_cons]; omega⟩, if_pos (by rw [List.length_cons]; omega), List.getD_cons_zero, hk]
      simp [g74L, ht, ho, hd1, hk0, hdn]
  · refine .inr ⟨fun v kd' a' b' p' r' hv ho' e => ?_, fun α kF F => ?_⟩
    · obtain ⟨rfl, e2⟩ := hkd ho' e
      unfold numsX at e2
      rw [hd1, ht, ho] at e2
      exact hl (by simpa using e2)
    · unfold ndB
      rw [g72_o, if_pos ⟨by omega, by rw [List.length_cons]; omega⟩, if_pos (by rw [List.length_cons]; omega), List.getD_cons_zero, hk]
      have : 0 < rr.length := List.length_pos_iff.2 hl
      have hne : (((rr.length : Nat) : Int) + 1 != 1) = true := by simp; omega
      simp [g74L, ht, ho, hd1, hk0, hdn, hne, hl]
def LineOk (w : ByteArray) (i : Nat) (x : List Int) : Prop := ∃ kd a b p r, x = [kd, a, b, p, r] ∧ OkN kd a b p r i ∧ splitQ w 32 = wordsX kd a b p r
def Good : Nat → List ByteArray → List (List Int) → Prop
  | _, [], [] => True
  | i, w :: ls, x :: t => LineOk w i x ∧ Good (i + 1) ls t
  | _, [], _ :: _ => False
  | _, _ :: _, [] => False
def Part (x : List Int) : Prop := ∃ kd a b p q, x = [kd, a, b, p, q] ∧ (-32768 ≤ a ∧ a ≤ 32767) ∧ (-32768 ≤ b ∧ b ≤ 32767) ∧ (-128 ≤ kd ∧ kd ≤ 127) ∧ (-9223372036854775808 ≤ p ∧ p ≤ 9223372036854775807) ∧ (-9223372036854775808 ≤ q ∧ q ≤ 9223372036854775807)
def OkAll : Nat → List (List Int) → Prop
  | _, [] => True
  | i, x :: t => OkN (x.headD 0) (x.tail.headD 0) (x.tail.tail.headD 0) (x.tail.tail.tail.headD 0) (x.tail.tail.tail.tail.headD 0) i ∧ OkAll (i + 1) t
theorem okAll_at : ∀ {t : List (List Int)} {i : Nat}, OkAll i t ↔ ∀ j, j < t.length → OkN ((List.getD t j []).headD 0) ((List.getD t j []).tail.headD 0) ((List.getD t j []).tail.tail.headD 0) ((List.getD t j []).tail.tail.tail.headD 0) ((List.getD t j []).tail.tail.tail.tail.headD 0) ((i + j : Nat) : Int)
  | [], i => by simp [OkAll]
  | x :: t, i => by
    constructor
    · rintro ⟨h1, h2⟩ j hj
      cases j with
      | zero => exact h1
      | succ j =>
        have := (okAll_at (t := t) (i := i + 1)).1 h2 j (by simpa using hj)
        rw [show i + (j + 1) = i + 1 + j by omega]
        exact this
    · intro h
      refine ⟨h 0 (by simp), okAll_at.2 fun j hj => ?_⟩
      have := h (j + 1) (by simpa using hj)
      rw [show i + (j + 1) = i + 1 + j by omega] at this
      exact this
theorem okFrom_iff {t : List (List Int)} : OkFrom t 0 ↔ OkAll 0 t := by
  rw [okAll_at]
  constructor
  · intro h j hj; rw [Nat.zero_add]; exact h j (Nat.zero_le _) hj
  · intro h j _ hj; have := h j hj; rwa [Nat.zero_add] at this
theorem rowN_mk {t : List (List Int)} (h : ∀ x ∈ t, Part x) (hl : t.length ≤ 1048576) : RowN t :=
  { len := hl, five := fun x hx => by obtain ⟨kd, a, b, p, q, rfl, _⟩ := h x hx; rfl, parts := h }
theorem good_len : ∀ {i : Nat} {ls : List ByteArray} {t : List (List Int)}, Good i ls t → t.length = ls.length
  | _, [], [], _ => rfl
  | i, w :: ls, x :: t, h => by rw [List.length_cons, List.length_cons, good_len h.2]
  | _, [], _ :: _, h => h.elim
  | _, _ :: _, [], h => h.elim
theorem good_all : ∀ {i : Nat} {ls : List ByteArray} {t : List (List Int)}, Good i ls t → OkAll i t
  | _, [], [], _ => trivial
  | i, w :: ls, x :: t, h => by
    obtain ⟨⟨kd, a, b, p, r, rfl, h2, _⟩, h3⟩ := h
    exact ⟨h2, good_all h3⟩
  | _, [], _ :: _, h => h.elim
  | _, _ :: _, [], h => h.elim
theorem good_part : ∀ {i : Nat} {ls : List ByteArray} {t : List (List Int)}, i + ls.length ≤ 1000 → Good i ls t → ∀ x ∈ t, Part x
  | _, [], [], _, _ => by simp
  | i, w :: ls, x :: t, hi, h => by
    rw [List.length_cons] at hi
    obtain ⟨⟨kd, a, b, p, r, rfl, h2, _⟩, h3⟩ := h
    intro y hy
    rcases List.mem_cons.1 hy with rfl | hy
    · obtain ⟨k1, p1, p2, q1, q2, a1, a2, b1, b2⟩ := okN_cases h2 (by omega)
      exact ⟨kd, a, b, p, r, rfl, by omega, by omega, by omega, by omega, by omega⟩
    · exact good_part (by omega) h3 y hy
  | _, [], _ :: _, _, h => h.elim
  | _, _ :: _, [], _, h => h.elim
theorem rdLoop {q : Nat} (hq : 1048576 < q) (lines : List ByteArray) (e : ByteArray) (hsz : ∀ w ∈ lines, w.size ≤ 1048576) (hn : lines.length ≤ 1000) : ∀ (r : List ByteArray) (i f : Nat) (acc : List (List Int)), lines.drop i = r → r.length < f → acc.length ≤ i → i ≤ lines.length →
    (∃ t, Good i r t ∧ ∀ (α : Type) (kF kT : List (List Int) → Option α), g33l0 (g70 q) ((lines.length + 1 : Nat) : Int) (lines ++ [e]) kF kT f (i : Int) acc = kT (acc ++ t)) ∨
    ((∀ t, ¬ Good i r t) ∧ ∀ (α : Type) (kF kT : List (List Int) → Option α), g33l0 (g70 q) ((lines.length + 1 : Nat) : Int) (lines ++ [e]) kF kT f (i : Int) acc = kF [])
  | [], i, f, acc, h, hf, ha, hi => by
    obtain ⟨f, rfl⟩ : ∃ n, f = n + 1 := ⟨f - 1, by omega⟩
    have hl := List.drop_eq_nil_iff.1 h
    refine .inl ⟨[], trivial, fun α kF kT => ?_⟩
    rw [g33l0_s, wrapI (by omega) (by omega), dF (by omega), cond_false, List.append_nil]
  | w :: r, i, f, acc, h, hf, ha, hi => by
    obtain ⟨f, rfl⟩ : ∃ n, f = n + 1 := ⟨f - 1, by omega⟩
    obtain ⟨hl, hg, hr⟩ := drop_at h
    rw [List.length_cons] at hf
    have hw : w ∈ lines := List.mem_of_mem_drop (i := i) (by rw [h]; simp)
    have hge : List.getD (lines ++ [e]) i ⟨#[]⟩ = w := by
      rw [← hg ⟨#[]⟩, List.getD, List.getD, List.getElem?_append_left hl]
    have hgo : ∀ (α : Type) (kF kT : List (List Int) → Option α), g33l0 (g70 q) ((lines.length + 1 : Nat) : Int) (lines ++ [e]) kF kT (f + 1) (i : Int) acc =
        g70 q w (i : Int) (fun x1 x2 x3 x4 x5 b => cond (!b) (kF []) (if acc.length + 1 ≤ 67108864 then g33l0 (g70 q) ((lines.length + 1 : Nat) : Int) (lines ++ [e]) kF kT f ((i + 1 : Nat) : Int) (acc ++ [[x1, x2, x3, x4, x5]]) else none)) := by
      intro α kF kT
      rw [g33l0_s, wrapI (by omega) (by omega), dT (by omega), cond_true, if_pos ⟨by omega, by rw [List.length_append, List.length_singleton]; omega⟩, Int.toNat_natCast, if_pos (by rw [List.length_append, List.length_singleton]; omega), hge, wrapS (by omega)]
    rcases readL hq (hsz w hw) (at_ := i) (by omega) with ⟨kd, a, b, p, r', h1, h2, h3⟩ | ⟨h1, kd, a, b, p, r', h3⟩
    · have hgo2 : ∀ (α : Type) (kF kT : List (List Int) → Option α), g33l0 (g70 q) ((lines.length + 1 : Nat) : Int) (lines ++ [e]) kF kT (f + 1) (i : Int) acc =
          g33l0 (g70 q) ((lines.length + 1 : Nat) : Int) (lines ++ [e]) kF kT f ((i + 1 : Nat) : Int) (acc ++ [[kd, a, b, p, r']]) := by
        intro α kF kT
        rw [hgo, h3, Bool.not_true, cond_false, if_pos (by omega)]
      rcases rdLoop hq lines e hsz hn r (i + 1) f (acc ++ [[kd, a, b, p, r']]) hr (by omega) (by simp; omega) (by omega) with ⟨t, g1, g2⟩ | ⟨g1, g2⟩
      · exact .inl ⟨[kd, a, b, p, r'] :: t, ⟨⟨kd, a, b, p, r', rfl, h1, h2⟩, g1⟩, fun α kF kT => by rw [hgo2, g2, List.append_assoc]; rfl⟩
      · refine .inr ⟨fun t => ?_, fun α kF kT => by rw [hgo2, g2]⟩
        match t with
        | [] => exact id
        | x :: t => exact fun hg => g1 t hg.2
    · refine .inr ⟨fun t => ?_, fun α kF kT => by rw [hgo, h3, Bool.not_false, cond_true]⟩
      match t with
      | [] => exact id
      | x :: t =>
        rintro ⟨⟨kd', a', b', p', q', _, e2, e3⟩, _⟩
        exact h1 kd' a' b' p' q' e2 e3
theorem rtLoop {q : Nat} (hq : 1048576 < q) (lines : List ByteArray) (hsz : ∀ w ∈ lines, w.size ≤ 1048576) (hn : lines.length ≤ 1000) : ∀ (r : List ByteArray) (i f : Nat) (acc : List (List Int)), lines.drop i = r → r.length < f → acc.length ≤ i → i ≤ lines.length →
    (∃ t, t.length = r.length ∧ (∀ x ∈ t, Part x) ∧ (OkAll i t → Good i r t) ∧ (∀ t', Good i r t' → t' = t) ∧ ∀ (α : Type) (kF : Option α) (kT : List (List Int) → Option α), g34l0v1 (g73 q) (g72 q) (g74 q) (g75 q) 0 lines.length lines.length ((lines.length : Nat) : Int) lines.length lines kF kT f (i : Int) acc = kT (acc ++ t)) ∨
    ((∀ t, ¬ Good i r t) ∧ ∀ (α : Type) (kF : Option α) (kT : List (List Int) → Option α), g34l0v1 (g73 q) (g72 q) (g74 q) (g75 q) 0 lines.length lines.length ((lines.length : Nat) : Int) lines.length lines kF kT f (i : Int) acc = kF)
  | [], i, f, acc, h, hf, ha, hi => by
    obtain ⟨f, rfl⟩ : ∃ n, f = n + 1 := ⟨f - 1, by omega⟩
    have hl := List.drop_eq_nil_iff.1 h
    refine .inl ⟨[], rfl, by simp, fun _ => trivial, fun t' h' => ?_, fun α kF kT => ?_⟩
    · match t', h' with
      | [], _ => rfl
    · rw [g34l0v1_s, dF (by omega), cond_false, List.append_nil]
  | w :: r, i, f, acc, h, hf, ha, hi => by
    obtain ⟨f, rfl⟩ : ∃ n, f = n + 1 := ⟨f - 1, by omega⟩
    obtain ⟨hl, hg, hr⟩ := drop_at h
    rw [List.length_cons] at hf
    have hw : w ∈ lines := List.mem_of_mem_drop (i := i) (by rw [h]; simp)
    obtain ⟨w0, rr, hws, hrl⟩ := splitQ_cons w 32
    have hgo : ∀ (α : Type) (kF : Option α) (kT : List (List Int) → Option α), g34l0v1 (g73 q) (g72 q) (g74 q) (g75 q) 0 lines.length lines.length ((lines.length : Nat) : Int) lines.length lines kF kT (f + 1) (i : Int) acc =
        ndB q (splitQ w 32).length (splitQ w 32) kF (fun x => g34l0v1 (g73 q) (g72 q) (g74 q) (g75 q) 0 lines.length lines.length ((lines.length : Nat) : Int) lines.length lines kF kT f ((i + 1 : Nat) : Int) (acc ++ [x])) := by
      intro α kF kT
      rw [g34l0v1_s, dT (by omega), cond_true, if_pos ⟨by omega, by omega⟩, Int.toNat_natCast, Nat.zero_add, if_pos hl, hg, wrapS (by omega), splitImpl q (hsz w hw)]
      simp only [if_pos (show acc.length + 1 ≤ 67108864 by omega)]
    rcases nodeL (m := q) (by omega) hws (fun x hx => by have := piece_size hx; have := hsz w hw; omega) with ⟨kd, a, b, p, r', h1, h3⟩ | ⟨h1, h3⟩
    · have hgo2 : ∀ (α : Type) (kF : Option α) (kT : List (List Int) → Option α), g34l0v1 (g73 q) (g72 q) (g74 q) (g75 q) 0 lines.length lines.length ((lines.length : Nat) : Int) lines.length lines kF kT (f + 1) (i : Int) acc =
          g34l0v1 (g73 q) (g72 q) (g74 q) (g75 q) 0 lines.length lines.length ((lines.length : Nat) : Int) lines.length lines kF kT f ((i + 1 : Nat) : Int) (acc ++ [[kd, a, b, p, r']]) := by
        intro α kF kT
        rw [hgo, h3]
      rcases rtLoop hq lines hsz hn r (i + 1) f (acc ++ [[kd, a, b, p, r']]) hr (by omega) (by simp; omega) (by omega) with ⟨t, g1, g2, g3, g4, g5⟩ | ⟨g1, g2⟩
      · refine .inl ⟨[kd, a, b, p, r'] :: t, by rw [List.length_cons, List.length_cons, g1], ?_, ?_, ?_, fun α kF kT => by rw [hgo2, g5, List.append_assoc]; rfl⟩
        · intro x hx
          rcases List.mem_cons.1 hx with rfl | hx
          · exact ⟨kd, a, b, p, r', rfl, h1.ra, h1.rb, h1.rk, h1.rp, h1.rr⟩
          · exact g2 x hx
        · rintro ⟨e1, e2⟩
          exact ⟨⟨kd, a, b, p, r', rfl, e1, h1.to i (by omega) e1⟩, g3 e2⟩
        · intro t' h'
          match t', h' with
          | x :: t', ⟨⟨kd', a', b', p', q', e1, e2, e3⟩, h''⟩ =>
            obtain ⟨rfl, rfl, rfl, rfl, rfl⟩ := h1.only i kd' a' b' p' q' (by omega) e2 e3
            rw [e1, g4 t' h'']
      · refine .inr ⟨fun t => ?_, fun α kF kT => by rw [hgo2, g2]⟩
        match t with
        | [] => exact id
        | x :: t => exact fun hg => g1 t hg.2
    · refine .inr ⟨fun t => ?_, fun α kF kT => by rw [hgo, h3]⟩
      match t with
      | [] => exact id
      | x :: t =>
        rintro ⟨⟨kd', a', b', p', q', _, e2, e3⟩, _⟩
        exact h1 i kd' a' b' p' q' (by omega) e2 e3
open Classical in
theorem readTerm {m : Nat} (hm : 1048576 < m) {z : ByteArray} (hz : z.size ≤ 1048576) :
    (∃ t : List (List Int), t.length ≤ 40 ∧ (∀ (α : Type) (k : Int → List (List Int) → Option α), g33 m z k = k 0 t) ∧ ∀ (α : Type) (kF : Option α) (kT : List (List Int) → Option α), g34 m z kF kT = kT t) ∨
    ((∀ (α : Type) (k : Int → List (List Int) → Option α), g33 m z k = k 5 []) ∧ ∀ (α : Type) (kF : Option α) (kT : List (List Int) → Option α), g34 m z kF kT = kF) := by
  have hnil : RowN [] := rowN_mk (by simp) (by simp)
  have hs0 : ∀ (α : Type) (k : Bool → Option α), g37 m [] k = k false := by
    intro α k
    rw [g37L m 0 hnil (by simp; omega), decide_eq_false (fun h => by have := h.1.1; simp at this)]
  have hv0 : ∀ (α : Type) (k : Bool → Option α), g40 m [] k = k false := by
    intro α k
    rw [g40L m 0 hnil (by simp; omega), decide_eq_false (fun h => by have := h.1.1; simp at this)]
  by_cases h0 : z = ⟨#[]⟩
  · refine .inr ⟨fun α k => ?_, fun α kF kT => ?_⟩
    · have hsp : splitQ z 10 = [] ++ [⟨#[]⟩] := by rw [h0]; rfl
      rw [g33_o]
      have := splitSpec (α := α) hm hz 10
      rw [show ((10 : Int)) = (((10 : UInt8).toNat : Nat) : Int) from rfl, this, hsp]
      rw [dF (by simp), cond_false]
      dsimp only
      rw [show IntKind.wrap .i64 (((([] ++ [(⟨#[]⟩ : ByteArray)] : List ByteArray).length : Nat) : Int) - 1) = 0 from rfl, if_pos ⟨by decide, by simp⟩, if_pos (by simp)]
      rw [show bytesEq (List.getD ([] ++ [(⟨#[]⟩ : ByteArray)]) (0 : Int).toNat ⟨#[]⟩) ⟨#[]⟩ = true from bytesEq_iff.2 rfl, Bool.not_true, cond_false]
      rcases rdLoop hm [] ⟨#[]⟩ (by simp) (by simp) [] 0 m [] rfl (by simp; omega) (by simp) (by simp) with ⟨t, g1, g2⟩ | ⟨g1, _⟩
      · match t, g1 with
        | [], _ =>
          refine (g2 α _ _).trans ?_
          rw [List.append_nil, hs0]; rfl
      · exact absurd trivial (g1 [])
    · rw [g34_o]
      rw [g71_o, bytesEq_iff.2 h0, cond_true, Bool.not_true, cond_false]
      obtain ⟨n, rfl⟩ : ∃ n, m = n + 1 := ⟨m - 1, by omega⟩
      rw [g34l0_s, dF (by omega), cond_false, hv0]; rfl
  have hne : bytesEq z ⟨#[]⟩ = false := by
    cases hc : bytesEq z ⟨#[]⟩ with
    | false => rfl
    | true => exact absurd (bytesEq_iff.1 hc) h0
  obtain ⟨l, b, hl⟩ : ∃ l b, z.data.toList = l ++ [b] := by
    rcases List.eq_nil_or_concat z.data.toList with h | ⟨l, b, h⟩
    · exact absurd (bytes_ext (by rw [h])) h0
    · exact ⟨l, b, by rw [h, List.concat_eq_append]⟩
  have hzs : z.size = l.length + 1 := by
    rw [show z.size = z.data.toList.length by simp, hl, List.length_append]; rfl
  have hlast : byteAt z l.length = (b.toNat : Int) := by
    have : z.data.toList.drop l.length = b :: [] := by rw [hl]; simp
    exact (byte_at this).2.1
  have hwz : IntKind.wrap .i64 (((z.size : Nat) : Int) - 1) = ((l.length : Nat) : Int) := by rw [wrapI (by omega) (by omega)]; omega
  have hsp : ∀ (α : Type) (k : Ty0 → Option α), g69 m z 10 k = k (splitQ z 10) := fun α k => splitSpec (α := α) hm hz 10 k
  by_cases hb : b = 10
  case neg =>
    have hb2 : ((b.toNat : Int) != 10) = true := by
      have : b.toNat ≠ 10 := fun e => hb (UInt8.toNat_inj.1 e)
      rw [bne_iff_ne]; omega
    refine .inr ⟨fun α k => ?_, fun α kF kT => ?_⟩
    · obtain ⟨r, x, h1, h2⟩ := splitL_last 10 l b hb
      have hq : splitQ z 10 = r.map toB ++ [toB x] := by unfold splitQ; rw [hl, h1, List.map_append]; rfl
      rw [g33_o, hsp, hq]
      by_cases hn : (((r.map toB ++ [toB x]).length : Nat) : Int) > 41
      · rw [dT hn, cond_true]
      · rw [dF hn, cond_false]
        dsimp only
        have hlen : (r.map toB ++ [toB x]).length = r.length + 1 := by simp
        rw [hlen] at hn ⊢
        rw [show IntKind.wrap .i64 (((r.length + 1 : Nat) : Int) - 1) = ((r.length : Nat) : Int) by rw [wrapI (by omega) (by omega)]; omega, if_pos ⟨by omega, by omega⟩, Int.toNat_natCast, if_pos (by omega)]
        have hg : List.getD (r.map toB ++ [toB x]) r.length ⟨#[]⟩ = toB x := by
          rw [List.getD, List.getElem?_append_right (by simp)]; simp
        rw [hg, show bytesEq (toB x) ⟨#[]⟩ = false from by
          cases hc : bytesEq (toB x) ⟨#[]⟩ with
          | false => rfl
          | true => exact absurd (toB_inj (b := []) (bytesEq_iff.1 hc)) h2, Bool.not_false, cond_true]
    · rw [g34_o, g71_o, hne, cond_false]
      dsimp only
      rw [hwz, if_pos ⟨by omega, by omega⟩, Int.toNat_natCast, hlast, hb2, cond_true, Bool.not_false, cond_true]
  subst hb
  have hq : splitQ z 10 = (splitL 10 l).map toB ++ [⟨#[]⟩] := by unfold splitQ; rw [hl, splitL_end, List.map_append]; rfl
  generalize hz' : ByteArray.extract z 0 l.length = z' at *
  have hzd : z'.data.toList = l := by rw [← hz', ext_data, hl]; simp
  have hz's : z'.size ≤ 1048576 := by rw [show z'.size = z'.data.toList.length by simp, hzd]; omega
  have hq' : (splitL 10 l).map toB = splitQ z' 10 := by unfold splitQ; rw [hzd]
  have hll : (splitQ z' 10).length = l.count 10 + 1 := by rw [splitQ_len, hzd]
  have hcz : z.data.toList.count 10 = l.count 10 + 1 := by rw [hl, List.count_append]; rfl
  rw [hq'] at hq
  generalize hL : splitQ z' 10 = lines at *
  have hsz : ∀ w ∈ lines, w.size ≤ 1048576 := fun w hw => by have := piece_size (z := z') (c := 10) (x := w) (by rw [hL]; exact hw); omega
  have hgoI : ∀ (α : Type) (kF : Option α) (kT : List (List Int) → Option α), g34 m z kF kT = cond (decide (((lines.length : Nat) : Int) > 40)) kF
      (g34l0v1 (g73 m) (g72 m) (g74 m) (g75 m) 0 lines.length lines.length ((lines.length : Nat) : Int) lines.length lines kF (fun l1026 => g40 m l1026 (fun b1027 => cond (!b1027) kF (kT l1026))) m ((0 : Nat) : Int) []) := by
    intro α kF kT
    rw [g34_o, g71_o, hne, cond_false]
    dsimp only
    rw [hwz, if_pos ⟨by omega, by omega⟩, Int.toNat_natCast, hlast, show ((((10 : UInt8).toNat : Nat) : Int) != 10) = false from rfl, cond_false, countImpl, hcz, ← hll]
    cases decide (((lines.length : Nat) : Int) > 40) with
    | true => rw [cond_true, cond_true, Bool.not_false, cond_true]
    | false =>
      rw [cond_false, cond_false, if_pos ⟨by omega, by omega, by omega⟩, hz', splitImpl m hz's 10, hL]
      rfl
  have hlen : (lines ++ [(⟨#[]⟩ : ByteArray)]).length = lines.length + 1 := by simp
  have hgoS : ∀ (α : Type) (k : Int → List (List Int) → Option α), g33 m z k = cond (decide (((lines.length : Nat) : Int) > 40)) (k 5 [])
      (g33l0 (g70 m) ((lines.length + 1 : Nat) : Int) (lines ++ [⟨#[]⟩]) (fun l411 => k 5 l411) (fun l412 => g37 m l412 (fun b486 => cond (!b486) (k 5 []) (k 0 l412))) m ((0 : Nat) : Int) []) := by
    intro α k
    rw [g33_o, hsp, hq, hlen]
    by_cases hn : ((lines.length : Nat) : Int) > 40
    · rw [dT (show ((lines.length + 1 : Nat) : Int) > 41 by omega), dT hn]; rfl
    · rw [dF (show ¬ ((lines.length + 1 : Nat) : Int) > 41 by omega), dF hn, cond_false, cond_false]
      dsimp only
      rw [show IntKind.wrap .i64 (((lines.length + 1 : Nat) : Int) - 1) = ((lines.length : Nat) : Int) by rw [wrapI (by omega) (by omega)]; omega, if_pos ⟨by omega, by omega⟩, Int.toNat_natCast, if_pos (by omega)]
      have hg : List.getD (lines ++ [(⟨#[]⟩ : ByteArray)]) lines.length ⟨#[]⟩ = ⟨#[]⟩ := by
        rw [List.getD, List.getElem?_append_right (by simp)]; simp
      rw [hg, show bytesEq (⟨#[]⟩ : ByteArray) ⟨#[]⟩ = true from bytesEq_iff.2 rfl, Bool.not_true, cond_false]
      rfl
  by_cases hn : ((lines.length : Nat) : Int) > 40
  · exact .inr ⟨fun α k => by rw [hgoS, dT hn, cond_true], fun α kF kT => by rw [hgoI, dT hn, cond_true]⟩
  have hS := rdLoop hm lines ⟨#[]⟩ hsz (by omega) lines 0 m [] rfl (by omega) (by simp) (by omega)
  have hI := rtLoop hm lines hsz (by omega) lines 0 m [] rfl (by omega) (by simp) (by omega)
  rcases hS with ⟨t, g1, g2⟩ | ⟨g1, g2⟩
  · have htl := good_len g1
    have hN := rowN_mk (good_part (by omega) g1) (by omega)
    have hok : OkFrom t 0 := okFrom_iff.2 (good_all g1)
    have h1 : 1 ≤ t.length ∧ t.length ≤ 40 := ⟨by omega, by omega⟩
    refine .inl ⟨t, h1.2, fun α k => ?_, fun α kF kT => ?_⟩
    · rw [hgoS, dF hn, cond_false, g2, List.nil_append, g37L m 0 hN (by omega), decide_eq_true ⟨h1, hok⟩]; rfl
    · rcases hI with ⟨t', e1, e2, e3, e4, e5⟩ | ⟨e1, _⟩
      · obtain rfl := e4 t g1
        rw [hgoI, dF hn, cond_false, e5, List.nil_append, g40L m 0 hN (by omega), decide_eq_true ⟨h1, hok⟩]; rfl
      · exact absurd g1 (e1 t)
  · refine .inr ⟨fun α k => by rw [hgoS, dF hn, cond_false, g2], fun α kF kT => ?_⟩
    rcases hI with ⟨t', e1, e2, e3, e4, e5⟩ | ⟨_, e2⟩
    · have hN := rowN_mk e2 (by omega)
      have hno : ¬ ((1 ≤ t'.length ∧ t'.length ≤ 40) ∧ OkFrom t' 0) := fun h => g1 t' (e3 (okFrom_iff.1 h.2))
      rw [hgoI, dF hn, cond_false, e5, List.nil_append, g40L m 0 hN (by omega), decide_eq_false hno]; rfl
    · rw [hgoI, dF hn, cond_false, e2]
theorem readLaw {α : Type} (m : Nat) (hm : 1048576 < m) (z : ByteArray) (k : Bool → Option α) : g6 m z k = k true := by
  rw [g6_o]
  by_cases hz : z.size ≤ 1048576
  case neg => rw [dT (by omega), cond_true]
  rw [dF (by omega), cond_false]
  rcases readTerm hm hz with ⟨t, h1, h2, h3⟩ | ⟨h2, h3⟩
  · have ht : t.length ≤ 1048576 := by omega
    have e0 : ((0 : Int) != 0) = false := rfl
    simp only [h2, h3, g11v1T m t ht hm, Bool.not_true, cond_false, e0, markL m t.length rfl ht hm (show (0 : Int) ≤ 1 by decide) (by decide), heldL m t.length ht hm (show (0 : Int) ≤ 1 by decide) (by decide), bne_self_eq_false]
    rw [dF (by omega)]
    rfl
  · have g11 : ∀ (β : Type) (k : Bool → Option β), g11 m [] k = k true := by
      intro β k
      obtain ⟨n, rfl⟩ : ∃ n, m = n + 1 := ⟨m - 1, by omega⟩
      rfl
    have g35 : ∀ (β : Type) (k : Option β), g35 m 1 k = k := by
      intro β k
      obtain ⟨n, rfl⟩ : ∃ n, m = n + 1 := ⟨m - 1, by omega⟩
      rfl
    have g36 : ∀ (β : Type) (k : Option β), g36 m 1 k = k := by
      intro β k
      obtain ⟨n, rfl⟩ : ∃ n, m = n + 1 := ⟨m - 1, by omega⟩
      rfl
    have e5 : ((5 : Int) != 5) = false := rfl
    simp only [h2, h3, g11, g35, g36, Bool.not_true, cond_false, e5]
theorem readLaw' (ls : List Lf) (hw : WT g6tp ls) : g6K (g6 1048577) ls (fun v _ _ => saysTrue v) = some () := by
  unfold g6K
  exact readLaw 1048577 (by omega) _ _
end Go.Proofs.YtlmmgjngihlpeaaDoor.Sx
