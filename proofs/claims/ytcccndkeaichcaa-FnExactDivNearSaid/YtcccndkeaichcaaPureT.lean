/- Plain laws: ReadWide. Our own work. -/
import Derived.Test.YtcccndkeaichcaaPureS
namespace Go.Proofs.Ytcccndkeaichcaa.Sx
open Go
set_option linter.unusedVariables false
set_option linter.unusedSimpArgs false
set_option maxRecDepth 100000
theorem bytes_loop (b : ByteArray) : ∀ (n i : Nat) (r : List UInt8), b.size - i = n → ByteArray.toList.loop b i r = r.reverse ++ b.data.toList.drop i
  | 0, i, r, h => by
    unfold ByteArray.toList.loop
    rw [if_neg (by omega), List.drop_eq_nil_of_le (by simpa using (show b.data.size ≤ i from (by have : b.size = b.data.size := rfl; omega))), List.append_nil]
  | n + 1, i, r, h => by
    unfold ByteArray.toList.loop
    have hs : b.size = b.data.size := rfl
    have hi : i < b.data.toList.length := by simp; omega
    rw [if_pos (by omega), bytes_loop b n (i + 1) _ (by omega), List.drop_eq_getElem_cons hi]
    have : b.get! i = b.data.toList[i] := by
      show b.data[i]! = _
      rw [getElem!_pos b.data i (by simpa using hi)]
      simp
    rw [this]; simp
theorem bytes_toList (b : ByteArray) : b.toList = b.data.toList := by
  unfold ByteArray.toList
  rw [bytes_loop b _ 0 [] rfl]; rfl
theorem bytesEq_list (a b : ByteArray) : bytesEq a b = decide (a.data.toList = b.data.toList) := by
  unfold bytesEq
  rw [bytes_toList, bytes_toList]
  by_cases h : a.data.toList = b.data.toList
  · rw [decide_eq_true h, h]; simp
  · rw [decide_eq_false h]; simpa using h
theorem size_list (b : ByteArray) : b.size = b.data.toList.length := by simp
theorem bytesEq_nil (a : ByteArray) : bytesEq a (⟨#[]⟩ : ByteArray) = decide (a.size = 0) := by
  rw [bytesEq_list]
  congr 1
  rw [size_list]
  simp only [eq_iff_iff]
  cases hl : a.data.toList with
  | nil => simp
  | cons x r => simp
theorem byte_range (s : ByteArray) (i : Nat) : 0 ≤ byteAt s i ∧ byteAt s i < 256 := by
  unfold byteAt
  have := (s.data.toList.getD i 0).toNat_lt
  omega
theorem byte_eq {s : ByteArray} {x : UInt8} {r : List UInt8} (h : s.data.toList = x :: r) (c : UInt8) : (byteAt s 0 == (c.toNat : Int)) = decide (x = c) := by
  unfold byteAt
  rw [h]
  simp only [List.getD_cons_zero]
  by_cases hx : x = c
  · subst hx; simp
  · rw [decide_eq_false hx]
    have : x.toNat ≠ c.toNat := fun e => hx (UInt8.toNat_inj.1 e)
    simp; omega
theorem zero_text {z : ByteArray} {x : UInt8} {r : List UInt8} (h : z.data.toList = x :: r) : bytesEq z (⟨#[48]⟩ : ByteArray) = (decide (x = 48) && decide (z.size = 1)) := by
  rw [bytesEq_list, h, size_list, h]
  by_cases hx : x = 48
  · subst hx
    cases r <;> simp
  · simp [hx]
theorem prefix_text {z : ByteArray} {x : UInt8} {r : List UInt8} (h : z.data.toList = x :: r) : bytesEq (ByteArray.extract z 0 1) (⟨#[45]⟩ : ByteArray) = decide (x = 45) := by
  rw [bytesEq_list, ByteArray.data_extract, Array.toList_extract, h]
  simp [List.extract]
/-! ### Digits -/
def okL (D : ByteArray) : Nat → Nat → Bool
  | _, 0 => true
  | i, d + 1 => cond (decide (byteAt D i < 48)) false (cond (decide (byteAt D i > 57)) false (okL D (i + 1) d))
def dig (D : ByteArray) (i : Nat) : Nat := (byteAt D i - 48).toNat
def valL (D : ByteArray) : Nat → Nat → Nat → Option Nat
  | _, 0, x => some x
  | i, d + 1, x => cond (decide (x * 10 < W192)) (cond (decide (x * 10 + dig D i < W192)) (valL D (i + 1) d (x * 10 + dig D i)) none) none
theorem okL_spec {D : ByteArray} : ∀ {d i : Nat}, okL D i d = true → ∀ j, i ≤ j → j < i + d → 48 ≤ byteAt D j ∧ byteAt D j ≤ 57
  | 0, i, h, j, h1, h2 => by omega
  | d + 1, i, h, j, h1, h2 => by
    simp only [okL] at h
    by_cases c1 : byteAt D i < 48
    · rw [decide_eq_true c1] at h; cases h
    · rw [decide_eq_false c1] at h
      by_cases c2 : byteAt D i > 57
      · rw [decide_eq_true c2] at h; cases h
      · rw [decide_eq_false c2] at h
        simp only [cond_false] at h
        by_cases hj : j = i
        · subst hj; omega
        · exact okL_spec h j (by omega) (by omega)
theorem g61ok {α : Type} (D : ByteArray) (hD : D.size < 2000000) (c1 c2 : Bool) (z : List Int) (k1 : List Int → Option α) (k2 : Option α) : ∀ (d i f : Nat), i + d = D.size → d < f →
    g61l0 D c1 c2 z k1 k2 f (i : Int) = cond (okL D i d) k2 (k1 [0, 0, 0, 0, 0, 0])
  | 0, i, f, hd, hf => by
    obtain ⟨f, rfl⟩ : ∃ j, f = j + 1 := ⟨f - 1, by omega⟩
    simp only [g61l0, g61l0b]
    rw [decide_eq_false (show ¬ (i : Int) < ((D.size : Nat) : Int) by omega)]; rfl
  | d + 1, i, f, hd, hf => by
    obtain ⟨f, rfl⟩ : ∃ j, f = j + 1 := ⟨f - 1, by omega⟩
    simp only [g61l0, g61l0b, okL]
    rw [decide_eq_true (show (i : Int) < ((D.size : Nat) : Int) by omega), if_pos (by omega), wrapI64 (x := (i : Int) + 1) (by omega) (by omega), show (i : Int) + 1 = ((i + 1 : Nat) : Int) by omega, g61ok D hD c1 c2 z k1 k2 d (i + 1) f (by omega) (by omega), Int.toNat_natCast]
    simp only [cond_true]
    cases decide (byteAt D i < 48)
    · rw [if_pos (by omega)]
      cases decide (byteAt D i > 57) <;> rfl
    · rfl
theorem g103ok {α : Type} (D : ByteArray) (hD : D.size < 2000000) (k1 k2 : Option α) : ∀ (d i f : Nat), i + d = D.size → d < f →
    g103l0 D k1 k2 f (i : Int) = cond (okL D i d) k2 k1
  | 0, i, f, hd, hf => by
    obtain ⟨f, rfl⟩ : ∃ j, f = j + 1 := ⟨f - 1, by omega⟩
    simp only [g103l0, g103l0b]
    rw [decide_eq_false (show ¬ (i : Int) < ((D.size : Nat) : Int) by omega)]; rfl
  | d + 1, i, f, hd, hf => by
    obtain ⟨f, rfl⟩ : ∃ j, f = j + 1 := ⟨f - 1, by omega⟩
    simp only [g103l0, g103l0b, okL]
    rw [decide_eq_true (show (i : Int) < ((D.size : Nat) : Int) by omega), if_pos (by omega), wrapI64 (x := (i : Int) + 1) (by omega) (by omega), show (i : Int) + 1 = ((i + 1 : Nat) : Int) by omega, g103ok D hD k1 k2 d (i + 1) f (by omega) (by omega), Int.toNat_natCast]
    simp only [cond_true]
    cases decide (byteAt D i < 48)
    · rw [if_pos (by omega)]
      cases decide (byteAt D i > 57) <;> rfl
    · rfl
theorem g81F {α : Type} (n : Nat) {a b : Nat} (ha : a < W192) (hb : b < W192) (k : Bool → List Int → Int → Option α) :
    g81 (n + 7) false (limbs 6 a) false (limbs 6 b) k = cond (decide (a + b < W192)) (k false (limbs 6 (a + b)) 0) (k false [0, 0, 0, 0, 0, 0] 3) := by
  simp only [g81, g81b, g112L n ha hb, beq_self_eq_true, cond_true]
  by_cases hs : a + b < W192
  · rw [decide_eq_true hs]
    simp only [cond_true, Bool.not_true, cond_false, g71L (n + 7) false hs, Bool.false_and]
  · rw [decide_eq_false hs]; rfl
theorem g67F {α : Type} (m : Nat) (l : List Int) (k : Bool → Option α) : g67 m false l k = k false := by kernel_rfl
theorem g79F {α : Type} (n : Nat) {a b : Nat} (ha : a < W192) (hb : b < W192) (o : Bool) (k : Bool → List Int → Bool → Option α) :
    g79 (n + 7) false (limbs 6 a) false (limbs 6 b) o k = k false (limbs 6 (a + b)) (o || !(decide (a + b < W192))) := by
  simp only [g79, g79b, g108L n ha hb, beq_self_eq_true, cond_true, g67F]
  cases o <;> rfl
theorem ten66 {α : Type} (m : Nat) (k : Bool → List Int → Option α) : g66 m 10 k = k false (limbs 6 10) := by kernel_rfl
theorem ten26 {α : Type} (m : Nat) (k : Bool → List Int → Option α) : g26 m 10 k = k false (limbs 6 10) := by kernel_rfl
theorem g71FF {α : Type} (m : Nat) (l : List Int) (k : Bool → Option α) : g71 m false l k = k false := by kernel_rfl
theorem dig66 {α : Type} (m d : Nat) (hd : d < 10) (k : Bool → List Int → Option α) : g66 m (d : Int) k = k false (limbs 6 d) := by
  have e2 : IntKind.wrap .u32 (Int.fdiv (d : Int) (2 ^ 32)) = 0 := by
    rw [show (2 ^ 32 : Int) = ((4294967296 : Nat) : Int) from rfl, fdivNat, Nat.div_eq_of_lt (by omega)]; rfl
  have e3 : limbs 6 d = [(d : Int), 0, 0, 0, 0, 0] := by
    simp only [limbs, Nat.mod_eq_of_lt (show d < 4294967296 by omega), Nat.div_eq_of_lt (show d < 4294967296 by omega)] <;> rfl
  simp only [g66, g66b, wrapU64N, Nat.mod_eq_of_lt (show d < 18446744073709551616 by omega), e2, wrapU32, Nat.mod_eq_of_lt (show d < 4294967296 by omega)]
  rw [decide_eq_false (show ¬ (d : Int) < 0 by omega), cond_false, g71FF, e3] <;> rfl
theorem g67FF {α : Type} (m : Nat) (l : List Int) (k : Bool → Option α) : g67 m false l k = k false := by kernel_rfl
theorem dig26 {α : Type} (m d : Nat) (hd : d < 10) (k : Bool → List Int → Option α) : g26 m (d : Int) k = k false (limbs 6 d) := by
  have e2 : IntKind.wrap .u32 (Int.fdiv (d : Int) (2 ^ 32)) = 0 := by
    rw [show (2 ^ 32 : Int) = ((4294967296 : Nat) : Int) from rfl, fdivNat, Nat.div_eq_of_lt (by omega)]; rfl
  have e3 : limbs 6 d = [(d : Int), 0, 0, 0, 0, 0] := by
    simp only [limbs, Nat.mod_eq_of_lt (show d < 4294967296 by omega), Nat.div_eq_of_lt (show d < 4294967296 by omega)] <;> rfl
  simp only [g26, g26b, wrapU64N, Nat.mod_eq_of_lt (show d < 18446744073709551616 by omega), e2, wrapU32, Nat.mod_eq_of_lt (show d < 4294967296 by omega)]
  rw [decide_eq_false (show ¬ (d : Int) < 0 by omega), cond_false, g67FF, e3] <;> rfl
theorem digit_val {D : ByteArray} {i : Nat} (h : 48 ≤ byteAt D i ∧ byteAt D i ≤ 57) : IntKind.wrap .i64 (IntKind.wrap .u8 (byteAt D i - 48)) = (dig D i : Int) ∧ dig D i < 10 := by
  unfold dig
  have e : byteAt D i - 48 = (((byteAt D i - 48).toNat : Nat) : Int) := by omega
  constructor
  · rw [e, wrapU8 (by omega), wrapI64 (by omega) (by omega), Int.toNat_natCast]
  · omega
theorem g61U2 {α : Type} (m : Nat) (D : ByteArray) (c1 c2 : Bool) (z : List Int) (k1 : Int → List Int → Option α) (k2 : Bool → List Int → Option α) (f : Nat) (i : Int) (s : Bool) (l : List Int) :
    g61l2 (g66 m) (g97 m) (g81 m) D c1 c2 z k1 k2 (f + 1) i s l = cond (decide (i < ((D.size : Nat) : Int))) (g66 m 10 (fun b1 l1 => g97 m s l b1 l1 (fun b2 l2 x2 => cond (x2 != 0) (k1 x2 [0, 0, 0, 0, 0, 0])
      (if 0 ≤ i ∧ i < D.size then g66 m (IntKind.wrap .i64 (IntKind.wrap .u8 (byteAt D i.toNat - 48))) (fun b3 l3 => g81 m b2 l2 b3 l3 (fun b4 l4 x4 => cond (x4 != 0) (k1 x4 [0, 0, 0, 0, 0, 0]) (g61l2 (g66 m) (g97 m) (g81 m) D c1 c2 z k1 k2 f (IntKind.wrap .i64 (i + 1)) b4 l4))) else none)))) (k2 s l) := by kernel_rfl
theorem g62U2 {α : Type} (m : Nat) (Z D : ByteArray) (c : Bool) (z : List Int) (k : Bool → Bool → List Int → Option α) (f : Nat) (i : Int) (o s : Bool) (l : List Int) :
    g62l0 (g26 m) (g78 m) (g79 m) Z D c z k (f + 1) i o s l = cond (decide (i < ((D.size : Nat) : Int))) (cond (!o) (g26 m 10 (fun b1 l1 => g78 m s l b1 l1 o (fun b2 l2 o2 =>
      (if 0 ≤ i ∧ i < D.size then g26 m (IntKind.wrap .i64 (IntKind.wrap .u8 (byteAt D i.toNat - 48))) (fun b3 l3 => g79 m b2 l2 b3 l3 o2 (fun b4 l4 o4 => g62l0 (g26 m) (g78 m) (g79 m) Z D c z k f (IntKind.wrap .i64 (i + 1)) o4 b4 l4)) else none)))) (k o s l)) (k o s l) := by kernel_rfl
theorem g61val {α : Type} (n : Nat) (D : ByteArray) (hD : D.size < 2000000) (c1 c2 : Bool) (z : List Int) (k1 : Int → List Int → Option α) (k2 : Bool → List Int → Option α) (hok : ∀ j, j < D.size → 48 ≤ byteAt D j ∧ byteAt D j ≤ 57) :
    ∀ (d i f x : Nat), i + d = D.size → d < f → x < W192 →
    g61l2 (g66 (n + 7)) (g97 (n + 7)) (g81 (n + 7)) D c1 c2 z k1 k2 f (i : Int) false (limbs 6 x) = match valL D i d x with
      | some v => k2 false (limbs 6 v)
      | none => k1 3 [0, 0, 0, 0, 0, 0]
  | 0, i, f, x, hd, hf, hx => by
    obtain ⟨f, rfl⟩ : ∃ j, f = j + 1 := ⟨f - 1, by omega⟩
    rw [g61U2, decide_eq_false (show ¬ (i : Int) < ((D.size : Nat) : Int) by omega)]; rfl
  | d + 1, i, f, x, hd, hf, hx => by
    obtain ⟨f, rfl⟩ : ∃ j, f = j + 1 := ⟨f - 1, by omega⟩
    obtain ⟨e1, e2⟩ := digit_val (hok i (by omega))
    rw [g61U2, decide_eq_true (show (i : Int) < ((D.size : Nat) : Int) by omega), cond_true, ten66, g97L n hx (show 10 < W192 by decide)]
    simp only [valL]
    by_cases c1 : x * 10 < W192
    · have hdl : dig D i < W192 := Nat.lt_trans e2 (by decide)
      rw [decide_eq_true c1, cond_true, cond_true, bne_self_eq_false, cond_false, if_pos (by omega), Int.toNat_natCast, e1, dig66 _ _ e2, beq_self_eq_true, Bool.not_true, Bool.false_and, g81F n c1 hdl]
      by_cases c2 : x * 10 + dig D i < W192
      · rw [decide_eq_true c2, cond_true, cond_true, bne_self_eq_false, cond_false, wrapI64 (x := (i : Int) + 1) (by omega) (by omega), show (i : Int) + 1 = ((i + 1 : Nat) : Int) by omega]
        exact g61val n D hD _ _ z k1 k2 hok d (i + 1) f _ (by omega) (by omega) c2
      · rw [decide_eq_false c2]; rfl
    · rw [decide_eq_false c1]; rfl
theorem g62stop {α : Type} (m : Nat) (Z D : ByteArray) (c : Bool) (z : List Int) (k : Bool → Bool → List Int → Option α) (R : Option α) (hR : ∀ s l, k true s l = R) (f : Nat) (i : Int) (s : Bool) (l : List Int) :
    g62l0 (g26 m) (g78 m) (g79 m) Z D c z k (f + 1) i true s l = R := by
  rw [g62U2]
  cases decide (i < ((D.size : Nat) : Int)) <;> exact hR s l
theorem g62val {α : Type} (n : Nat) (Z D : ByteArray) (hD : D.size < 2000000) (c : Bool) (z : List Int) (k : Bool → Bool → List Int → Option α) (R : Option α) (hR : ∀ s l, k true s l = R) (hok : ∀ j, j < D.size → 48 ≤ byteAt D j ∧ byteAt D j ≤ 57) :
    ∀ (d i f x : Nat), i + d = D.size → d < f → x < W192 →
    g62l0 (g26 (n + 7)) (g78 (n + 7)) (g79 (n + 7)) Z D c z k f (i : Int) false false (limbs 6 x) = match valL D i d x with
      | some v => k false false (limbs 6 v)
      | none => R
  | 0, i, f, x, hd, hf, hx => by
    obtain ⟨f, rfl⟩ : ∃ j, f = j + 1 := ⟨f - 1, by omega⟩
    rw [g62U2, decide_eq_false (show ¬ (i : Int) < ((D.size : Nat) : Int) by omega)]; rfl
  | d + 1, i, f, x, hd, hf, hx => by
    obtain ⟨f, rfl⟩ : ∃ j, f = j + 2 := ⟨f - 2, by omega⟩
    obtain ⟨e1, e2⟩ := digit_val (hok i (by omega))
    have hdl : dig D i < W192 := Nat.lt_trans e2 (by decide)
    rw [g62U2, decide_eq_true (show (i : Int) < ((D.size : Nat) : Int) by omega), cond_true, Bool.not_false, cond_true, ten26, g78L n hx (show 10 < W192 by decide)]
    simp only [valL]
    by_cases c1 : x * 10 < W192
    · rw [decide_eq_true c1, cond_true, cond_true, if_pos (by omega), Int.toNat_natCast, e1, dig26 _ _ e2, beq_self_eq_true, Bool.not_true, Bool.false_and, g79F n c1 hdl, Bool.false_or]
      by_cases c2 : x * 10 + dig D i < W192
      · rw [decide_eq_true c2, cond_true, Bool.not_true, wrapI64 (x := (i : Int) + 1) (by omega) (by omega), show (i : Int) + 1 = ((i + 1 : Nat) : Int) by omega]
        exact g62val n Z D hD c z k R hR hok d (i + 1) (f + 1) _ (by omega) (by omega) c2
      · rw [decide_eq_false c2, Bool.not_false]
        exact g62stop (n + 7) Z D c z k R hR f _ _ _
    · rw [decide_eq_false c1, cond_false, if_pos (by omega), Int.toNat_natCast, e1, dig26 _ _ e2]
      have := g79F (α := α) n (a := 0) (show 0 < W192 by decide) hdl true (fun b4 l4 o4 => g62l0 (g26 (n + 7)) (g78 (n + 7)) (g79 (n + 7)) Z D c z k (f + 1) (IntKind.wrap .i64 ((i : Int) + 1)) o4 b4 l4)
      rw [show limbs 6 0 = [0, 0, 0, 0, 0, 0] from rfl] at this
      rw [this, Bool.true_or]
      exact g62stop (n + 7) Z D c z k R hR f _ _ _
theorem valL_pos {D : ByteArray} : ∀ {d i x v : Nat}, 0 < x → valL D i d x = some v → 0 < v
  | 0, i, x, v, hx, h => by simp only [valL, Option.some.injEq] at h; omega
  | d + 1, i, x, v, hx, h => by
    simp only [valL] at h
    by_cases c1 : x * 10 < W192
    · rw [decide_eq_true c1, cond_true] at h
      by_cases c2 : x * 10 + dig D i < W192
      · rw [decide_eq_true c2, cond_true] at h
        exact valL_pos (by omega) h
      · rw [decide_eq_false c2] at h; cases h
    · rw [decide_eq_false c1] at h; cases h
theorem valL_lt {D : ByteArray} : ∀ {d i x v : Nat}, x < W192 → valL D i d x = some v → v < W192
  | 0, i, x, v, hx, h => by simp only [valL, Option.some.injEq] at h; omega
  | d + 1, i, x, v, hx, h => by
    simp only [valL] at h
    by_cases c1 : x * 10 < W192
    · rw [decide_eq_true c1, cond_true] at h
      by_cases c2 : x * 10 + dig D i < W192
      · rw [decide_eq_true c2, cond_true] at h
        exact valL_lt c2 h
      · rw [decide_eq_false c2] at h; cases h
    · rw [decide_eq_false c1] at h; cases h
end Go.Proofs.Ytcccndkeaichcaa.Sx
