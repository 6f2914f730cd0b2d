/- Plain laws: the library's text of a number, whole. Our own work. -/
import Derived.Test.YtlmmgjngihlpeaaDoorTxtC
namespace Go.Proofs.YtlmmgjngihlpeaaDoor.Sx
open Go
set_option linter.unusedVariables false
set_option linter.unusedSimpArgs false
set_option maxRecDepth 100000
section
variable {l : List Int} {off nd u cap : Nat} {α : Type}
theorem fb_loop {K : Int → Int → List Int → Option α} (hl : l.length = 24) (ho : off + nd ≤ 24) (hu : u < 18446744073709551616) {w : Nat} (hw : w < 8) : ∀ (d j F : Nat), nd = j + 8 * d + w → d < F →
    g128l0 off nd cap K F ((u / 10 ^ j : Nat) : Int) ((nd - j : Nat) : Int) (fb l off nd u j) = K ((u / 10 ^ (nd - w) : Nat) : Int) (w : Int) (fb l off nd u (nd - w))
  | 0, j, F, h, hF => by
    obtain ⟨F, rfl⟩ : ∃ n, F = n + 1 := ⟨F - 1, by omega⟩
    rw [g128l0_s, dF (by omega), cond_false, show nd - j = w by omega, show nd - w = j by omega]
  | d + 1, j, F, h, hF => by
    obtain ⟨F, rfl⟩ : ∃ n, F = n + 1 := ⟨F - 1, by omega⟩
    rw [fb_step hl ho (by omega) (Nat.lt_of_le_of_lt (Nat.div_le_self _ _) hu), fb_loop hl ho hu hw d (j + 8) F (by omega) (by omega)]
def T2 (off nd : Nat) (k : List Int → Option α) (v w : Int) (L : List Int) : Option α :=
  cond (decide (w ≥ (2 : Int)))
    (let x464 : Int := IntKind.wrap .u32 ((Int.tmod v (100 : Int)) * (2 : Int))
     let x466 : Int := IntKind.wrap .i64 (w - (1 : Int))
     let x467 : Int := IntKind.wrap .i64 (w - (2 : Int))
     let x468 : Int := IntKind.wrap .u32 (x464 + (1 : Int))
     if 0 ≤ x468 ∧ x468 < strC2.size then
     if 0 ≤ x464 ∧ x464 < strC2.size then
     if 0 ≤ x466 ∧ x466 < (nd : Nat) then
     if (off + x466.toNat) < 24 then
     if 0 ≤ x467 ∧ x467 < (nd : Nat) then
     if (off + x467.toNat) < 24 then
     let l472 : List Int := List.set (List.set L (off + x466.toNat) (byteAt strC2 x468.toNat)) (off + x467.toNat) (byteAt strC2 x464.toNat)
     cond (decide ((IntKind.wrap .i64 (w - (2 : Int))) > (0 : Int))) (if 0 ≤ (0 : Int) ∧ (0 : Int) < (nd : Nat) then if (off + 0) < 24 then k (List.set l472 (off + 0) (IntKind.wrap .u8 (IntKind.wrap .u32 ((48 : Int) + (IntKind.wrap .u32 (Int.tdiv v (100 : Int))))))) else none else none) (k l472)
     else none else none else none else none else none else none)
    (cond (decide (w > (0 : Int))) (if 0 ≤ (0 : Int) ∧ (0 : Int) < (nd : Nat) then if (off + 0) < 24 then k (List.set L (off + 0) (IntKind.wrap .u8 (IntKind.wrap .u32 ((48 : Int) + v)))) else none else none) (k L))
theorem T2_ok (hl : l.length = 24) (ho : off + nd ≤ 24) {w : Nat} (hw : w ≤ 3) (hwn : w ≤ nd) (hu : u / 10 ^ (nd - w) < 10 ^ w) (k : List Int → Option α) :
    T2 off nd k ((u / 10 ^ (nd - w) : Nat) : Int) (w : Int) (fb l off nd u (nd - w)) = k (fb l off nd u nd) := by
  have hlo : off + nd ≤ l.length := by omega
  have q : ∀ i, u / 10 ^ (nd - w + i) = u / 10 ^ (nd - w) / 10 ^ i := fun i => by rw [Nat.pow_add, ← Nat.div_div_eq_div_mul]
  have q0 : u / 10 ^ (nd - w) = u / 10 ^ (nd - w) := rfl
  unfold T2
  generalize hvv : u / 10 ^ (nd - w) = v at *
  have h1000 : v < 1000 := by
    have := Nat.pow_le_pow_right (show 0 < 10 by decide) hw
    omega
  by_cases h2 : 2 ≤ w
  · rw [dT (by omega), cond_true]
    extract_lets x1 i1 i2 z1 L1
    have e1 : x1 = ((2 * (v % 100) : Nat) : Int) := by
      show IntKind.wrap .u32 (Int.tmod (v : Int) 100 * 2) = _
      rw [tm2, dbl, w32 (by omega)]
    have g1 : i1 = (w : Int) - 1 := wrapI (by omega) (by omega)
    have g2 : i2 = (w : Int) - 2 := wrapI (by omega) (by omega)
    have h3 : z1 = ((2 * (v % 100) + 1 : Nat) : Int) := by
      show IntKind.wrap .u32 (x1 + 1) = _
      rw [e1, dbl1, w32 (by omega)]
    have c2 : v % 100 < 100 := by omega
    have hL1 : L1 = fb l off nd u (nd - w + 1 + 1) := by
      show List.set (List.set _ (off + i1.toNat) (byteAt strC2 z1.toNat)) (off + i2.toNat) (byteAt strC2 x1.toNat) = _
      rw [h3, e1, Int.toNat_natCast, Int.toNat_natCast, (sm_ok c2).1, (sm_ok c2).2, fb_set hlo (j := nd - w) (by omega) (by rw [g1]; omega) (by rw [hvv]; omega), fb_set hlo (j := nd - w + 1) (by omega) (by rw [g2]; omega) (by rw [q 1]; omega)]
    have sz := strC2_size
    rw [if_pos (by rw [h3]; omega), if_pos (by rw [e1]; omega), if_pos (by rw [g1]; omega), if_pos (by rw [g1]; omega), if_pos (by rw [g2]; omega), if_pos (by rw [g2]; omega), hL1, wrapI (by omega) (by omega)]
    by_cases h5 : w = 3
    · rw [dT (by omega), cond_true, if_pos (by omega), if_pos (by omega), td2, w32 (by omega), show (48 : Int) + ((v / 100 : Nat) : Int) = ((48 + v / 100 : Nat) : Int) by omega, w32 (by omega), wrapB (by omega) (by omega),
        fb_set hlo (j := nd - w + 1 + 1) (by omega) (by omega) (by rw [show nd - w + 1 + 1 = nd - w + 2 from rfl, q 2]; omega), show nd - w + 1 + 1 + 1 = nd by omega]
    · rw [dF (by omega), cond_false, show nd - w + 1 + 1 = nd by omega]
  · rw [dF (by omega), cond_false]
    by_cases h5 : w = 1
    · subst h5
      rw [dT (by decide), cond_true, if_pos (by omega), if_pos (by omega), show (48 : Int) + ((v : Nat) : Int) = ((48 + v : Nat) : Int) by omega, w32 (by omega), wrapB (by omega) (by omega),
        fb_set hlo (j := nd - 1) (by omega) (by omega) (by rw [hvv]; omega), show nd - 1 + 1 = nd by omega]
    · rw [dF (by omega), cond_false, show nd - w = nd by omega]
theorem fBase (hl : l.length = 24) (ho : off + nd ≤ 24) (hn : u < 10 ^ nd) (hu : u < 18446744073709551616) (m : Nat) (hm : 4 ≤ m) (k : List Int → Option α) :
    g128 m off nd cap (u : Int) l k = k (fb l off nd u nd) := by
  have hlo : off + nd ≤ l.length := by omega
  have e0 : fb l off nd u 0 = l := by
    unfold fb
    show l.take (off + nd) ++ ([] ++ l.drop (off + nd)) = l
    rw [List.nil_append, List.take_append_drop]
  have hlp : ∀ K : Int → Int → List Int → Option α, g128l0 off nd cap K m (u : Int) (nd : Int) l = K ((u / 10 ^ (nd - nd % 8) : Nat) : Int) ((nd % 8 : Nat) : Int) (fb l off nd u (nd - nd % 8)) := fun K => by
    have h := fb_loop (l := l) (off := off) (nd := nd) (u := u) (cap := cap) (K := K) hl ho hu (w := nd % 8) (by omega) (nd / 8) 0 m (by omega) (by omega)
    rw [e0, Nat.pow_zero, Nat.div_one, Nat.sub_zero] at h
    exact h
  rw [g128_o, hlp]
  have hw : nd % 8 < 8 := by omega
  have hwn : nd % 8 ≤ nd := by omega
  have hv : u / 10 ^ (nd - nd % 8) < 10 ^ (nd % 8) := by
    rw [Nat.div_lt_iff_lt_mul (Nat.pow_pos (by decide)), ← Nat.pow_add, show nd % 8 + (nd - nd % 8) = nd by omega]; exact hn
  generalize nd % 8 = w at *
  have hw7 : 10 ^ w ≤ 10 ^ 7 := Nat.pow_le_pow_right (by decide) (by omega)
  by_cases h4 : 4 ≤ w
  · have q : ∀ i, u / 10 ^ (nd - w + i) = u / 10 ^ (nd - w) / 10 ^ i := fun i => by rw [Nat.pow_add, ← Nat.div_div_eq_div_mul]
    have hv2 : u / 10 ^ (nd - (w - 4)) < 10 ^ (w - 4) := by
      rw [show nd - (w - 4) = nd - w + 4 by omega, q 4, Nat.div_lt_iff_lt_mul (by decide), ← Nat.pow_add, show w - 4 + 4 = w by omega]; exact hv
    have hT := T2_ok hl ho (w := w - 4) (by omega) (by omega) hv2 k
    rw [show nd - (w - 4) = nd - w + 1 + 1 + 1 + 1 by omega, show nd - w + 1 + 1 + 1 + 1 = nd - w + 4 from rfl, q 4] at hT
    generalize hvv : u / 10 ^ (nd - w) = v at *
    dsimp only
    rw [dT (by omega), cond_true, w32 (by omega)]
    show (let x421 : Int := Int.tmod (v : Int) (10000 : Int)
      let x422 : Int := IntKind.wrap .u32 (Int.tdiv (v : Int) (10000 : Int))
      let x424 : Int := IntKind.wrap .u32 ((IntKind.wrap .u32 (Int.tdiv x421 (100 : Int))) * (2 : Int))
      let x426 : Int := IntKind.wrap .u32 ((Int.tmod x421 (100 : Int)) * (2 : Int))
      let x427 : Int := IntKind.wrap .i64 ((w : Int) - (1 : Int))
      let x428 : Int := IntKind.wrap .i64 ((w : Int) - (2 : Int))
      let x429 : Int := IntKind.wrap .u32 (x426 + (1 : Int))
      let x434 : Int := IntKind.wrap .i64 ((w : Int) - (3 : Int))
      let x435 : Int := IntKind.wrap .i64 ((w : Int) - (4 : Int))
      let x436 : Int := IntKind.wrap .u32 (x424 + (1 : Int))
      if 0 ≤ x429 ∧ x429 < strC2.size then
      if 0 ≤ x426 ∧ x426 < strC2.size then
      if 0 ≤ x427 ∧ x427 < (nd : Nat) then
      if (off + x427.toNat) < 24 then
      if 0 ≤ x428 ∧ x428 < (nd : Nat) then
      if (off + x428.toNat) < 24 then
      if 0 ≤ x436 ∧ x436 < strC2.size then
      if 0 ≤ x424 ∧ x424 < strC2.size then
      if 0 ≤ x434 ∧ x434 < (nd : Nat) then
      if (off + x434.toNat) < 24 then
      if 0 ≤ x435 ∧ x435 < (nd : Nat) then
      if (off + x435.toNat) < 24 then
      T2 off nd k x422 (IntKind.wrap .i64 ((w : Int) - (4 : Int))) (List.set (List.set (List.set (List.set (fb l off nd u (nd - w)) (off + x427.toNat) (byteAt strC2 x429.toNat)) (off + x428.toNat) (byteAt strC2 x426.toNat)) (off + x434.toNat) (byteAt strC2 x436.toNat)) (off + x435.toNat) (byteAt strC2 x424.toNat))
      else none else none else none else none else none else none else none else none else none else none else none else none) = _
    extract_lets x1 x2 x4 x5 i1 i2 z1 i3 i4 z2
    have e1 : x1 = ((v % 10000 : Nat) : Int) := tm4 _
    have e2 : x2 = ((v / 10000 : Nat) : Int) := by
      show IntKind.wrap .u32 (Int.tdiv (v : Int) 10000) = _
      rw [td4, w32 (by omega)]
    have e4 : x4 = ((2 * (v % 10000 / 100) : Nat) : Int) := by
      show IntKind.wrap .u32 (IntKind.wrap .u32 (Int.tdiv x1 100) * 2) = _
      rw [e1, td2, w32 (by omega), dbl, w32 (by omega)]
    have e5 : x5 = ((2 * (v % 10000 % 100) : Nat) : Int) := by
      show IntKind.wrap .u32 (Int.tmod x1 100 * 2) = _
      rw [e1, tm2, dbl, w32 (by omega)]
    have g1 : i1 = (w : Int) - 1 := wrapI (by omega) (by omega)
    have g2 : i2 = (w : Int) - 2 := wrapI (by omega) (by omega)
    have g3 : i3 = (w : Int) - 3 := wrapI (by omega) (by omega)
    have g4 : i4 = (w : Int) - 4 := wrapI (by omega) (by omega)
    have k1 : z1 = ((2 * (v % 10000 % 100) + 1 : Nat) : Int) := by
      show IntKind.wrap .u32 (x5 + 1) = _
      rw [e5, dbl1, w32 (by omega)]
    have k2 : z2 = ((2 * (v % 10000 / 100) + 1 : Nat) : Int) := by
      show IntKind.wrap .u32 (x4 + 1) = _
      rw [e4, dbl1, w32 (by omega)]
    clear_value x1 x2 x4 x5 i1 i2 z1 i3 i4 z2
    subst e2; subst e4; subst e5; subst g1; subst g2; subst g3; subst g4; subst k1; subst k2
    have sz := strC2_size
    have c1 : v % 10000 / 100 < 100 := by omega
    have c2 : v % 10000 % 100 < 100 := by omega
    rw [if_pos (by omega), if_pos (by omega), if_pos (by omega), if_pos (by omega), if_pos (by omega), if_pos (by omega), if_pos (by omega), if_pos (by omega), if_pos (by omega), if_pos (by omega), if_pos (by omega), if_pos (by omega)]
    rw [Int.toNat_natCast, Int.toNat_natCast, Int.toNat_natCast, Int.toNat_natCast, (sm_ok c2).2, (sm_ok c2).1, (sm_ok c1).2, (sm_ok c1).1]
    rw [fb_set hlo (j := nd - w) (by omega) (by omega) (by rw [hvv]; omega), fb_set hlo (j := nd - w + 1) (by omega) (by omega) (by rw [q 1]; omega), fb_set hlo (j := nd - w + 1 + 1) (by omega) (by omega) (by rw [show nd - w + 1 + 1 = nd - w + 2 from rfl, q 2]; omega),
      fb_set hlo (j := nd - w + 1 + 1 + 1) (by omega) (by omega) (by rw [show nd - w + 1 + 1 + 1 = nd - w + 3 from rfl, q 3]; omega), wrapI (by omega) (by omega), show (w : Int) - 4 = ((w - 4 : Nat) : Int) by omega]
    exact hT
  · have hT := T2_ok hl ho (w := w) (by omega) hwn hv k
    generalize hvv : u / 10 ^ (nd - w) = v at *
    dsimp only
    rw [dF (by omega), cond_false, w32 (by omega)]
    exact hT
end
end Go.Proofs.YtlmmgjngihlpeaaDoor.Sx
