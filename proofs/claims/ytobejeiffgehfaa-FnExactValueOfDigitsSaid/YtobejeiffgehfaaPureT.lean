/- Plain laws: ReadWide. Our own work. -/
import Derived.Test.YtobejeiffgehfaaPureS
namespace Go.Proofs.Ytobejeiffgehfaa.Sx
open Go
set_option linter.unusedVariables false
set_option linter.unusedSimpArgs false
set_option maxRecDepth 100000
theorem bytes_loop (b : ByteArray) : ∀ (n i : Nat) (r : List UInt8), b.size - i = n → ByteArray.toList.loop b i r = r.reverse ++ b.data.toList.drop i
  | 0, i, r, h => by
    unfold ByteArray.toList.loop
    rw [if_neg (by omega), List.drop_eq_nil_of_le (by simpa using (show b.data.size ≤ i from (by have : b.size = b.data.size := rfl; omega))), List.append_nil]
  | n + 1, i, r, h => by
    unfold ByteArray.toList.loop
    have hs : b.size = b.data.size := rfl
    have hi : i < b.data.toList.length := by simp; omega
    rw [if_pos (by omega), bytes_loop b n (i + 1) _ (by omega), List.drop_eq_getElem_cons hi]
    have : b.get! i = b.data.toList[i] := by
      show b.data[i]! = _
      rw [getElem!_pos b.data i (by simpa using hi)]
      simp
    rw [this]; simp
theorem bytes_toList (b : ByteArray) : b.toList = b.data.toList := by
  unfold ByteArray.toList
  rw [bytes_loop b _ 0 [] rfl]; rfl
theorem bytesEq_list (a b : ByteArray) : bytesEq a b = decide (a.data.toList = b.data.toList) := by
  unfold bytesEq
  rw [bytes_toList, bytes_toList]
  by_cases h : a.data.toList = b.data.toList
  · rw [decide_eq_true h, h]; simp
  · rw [decide_eq_false h]; simpa using h
theorem size_list (b : ByteArray) : b.size = b.data.toList.length := by simp
theorem bytesEq_nil (a : ByteArray) : bytesEq a (⟨#[]⟩ : ByteArray) = decide (a.size = 0) := by
  rw [bytesEq_list]
  congr 1
  rw [size_list]
  simp only [eq_iff_iff]
  cases hl : a.data.toList with
  | nil => simp
  | cons x r => simp
theorem byte_range (s : ByteArray) (i : Nat) : 0 ≤ byteAt s i ∧ byteAt s i < 256 := by
  unfold byteAt
  have := (s.data.toList.getD i 0).toNat_lt
  omega
theorem byte_eq {s : ByteArray} {x : UInt8} {r : List UInt8} (h : s.data.toList = x :: r) (c : UInt8) : (byteAt s 0 == (c.toNat : Int)) = decide (x = c) := by
  unfold byteAt
  rw [h]
  simp only [List.getD_cons_zero]
  by_cases hx : x = c
  · subst hx; simp
  · rw [decide_eq_false hx]
    have : x.toNat ≠ c.toNat := fun e => hx (UInt8.toNat_inj.1 e)
    simp; omega
theorem zero_text {z : ByteArray} {x : UInt8} {r : List UInt8} (h : z.data.toList = x :: r) : bytesEq z (⟨#[48]⟩ : ByteArray) = (decide (x = 48) && decide (z.size = 1)) := by
  rw [bytesEq_list, h, size_list, h]
  by_cases hx : x = 48
  · subst hx
    cases r <;> simp
  · simp [hx]
theorem prefix_text {z : ByteArray} {x : UInt8} {r : List UInt8} (h : z.data.toList = x :: r) : bytesEq (ByteArray.extract z 0 1) (⟨#[45]⟩ : ByteArray) = decide (x = 45) := by
  rw [bytesEq_list, ByteArray.data_extract, Array.toList_extract, h]
  simp [List.extract]
/-! ### Digits -/
def okL (D : ByteArray) : Nat → Nat → Bool
  | _, 0 => true
  | i, d + 1 => cond (decide (byteAt D i < 48)) false (cond (decide (byteAt D i > 57)) false (okL D (i + 1) d))
def dig (D : ByteArray) (i : Nat) : Nat := (byteAt D i - 48).toNat
def valL (D : ByteArray) : Nat → Nat → Nat → Option Nat
  | _, 0, x => some x
  | i, d + 1, x => cond (decide (x * 10 < W192)) (cond (decide (x * 10 + dig D i < W192)) (valL D (i + 1) d (x * 10 + dig D i)) none) none
theorem okL_spec {D : ByteArray} : ∀ {d i : Nat}, okL D i d = true → ∀ j, i ≤ j → j < i + d → 48 ≤ byteAt D j ∧ byteAt D j ≤ 57
  | 0, i, h, j, h1, h2 => by omega
  | d + 1, i, h, j, h1, h2 => by
    simp only [okL] at h
    by_cases c1 : byteAt D i < 48
    · rw [decide_eq_true c1] at h; cases h
    · rw [decide_eq_false c1] at h
      by_cases c2 : byteAt D i > 57
      · rw [decide_eq_true c2] at h; cases h
      · rw [decide_eq_false c2] at h
        simp only [cond_false] at h
        by_cases hj : j = i
        · subst hj; omega
        · exact okL_spec h j (by omega) (by omega)
theorem g60F {α : Type} (n : Nat) {a b : Nat} (ha : a < W192) (hb : b < W192) (k : Bool → List Int → Int → Option α) :
    g60 (n + 7) false (limbs 6 a) false (limbs 6 b) k = cond (decide (a + b < W192)) (k false (limbs 6 (a + b)) 0) (k false [0, 0, 0, 0, 0, 0] 3) := by
  simp only [g60, g60b, g89L n ha hb, beq_self_eq_true, cond_true]
  by_cases hs : a + b < W192
  · rw [decide_eq_true hs]
    simp only [cond_true, Bool.not_true, cond_false, g88L (n + 7) false hs, Bool.false_and]
  · rw [decide_eq_false hs]; rfl
theorem g84F {α : Type} (m : Nat) (l : List Int) (k : Bool → Option α) : g84 m false l k = k false := by kernel_rfl
theorem g53F {α : Type} (n : Nat) {a b : Nat} (ha : a < W192) (hb : b < W192) (o : Bool) (k : Bool → List Int → Bool → Option α) :
    g53 (n + 7) false (limbs 6 a) false (limbs 6 b) o k = k false (limbs 6 (a + b)) (o || !(decide (a + b < W192))) := by
  simp only [g53, g53b, g69L n ha hb, beq_self_eq_true, cond_true, g84F]
  cases o <;> rfl
theorem ten66 {α : Type} (m : Nat) (k : Bool → List Int → Option α) : g62 m 10 k = k false (limbs 6 10) := by kernel_rfl
theorem ten26 {α : Type} (m : Nat) (k : Bool → List Int → Option α) : g55 m 10 k = k false (limbs 6 10) := by kernel_rfl
theorem g88FF {α : Type} (m : Nat) (l : List Int) (k : Bool → Option α) : g88 m false l k = k false := by kernel_rfl
theorem dig66 {α : Type} (m d : Nat) (hd : d < 10) (k : Bool → List Int → Option α) : g62 m (d : Int) k = k false (limbs 6 d) := by
  have e2 : IntKind.wrap .u32 (Int.fdiv (d : Int) (2 ^ 32)) = 0 := by
    rw [show (2 ^ 32 : Int) = ((4294967296 : Nat) : Int) from rfl, fdivNat, Nat.div_eq_of_lt (by omega)]; rfl
  have e3 : limbs 6 d = [(d : Int), 0, 0, 0, 0, 0] := by
    simp only [limbs, Nat.mod_eq_of_lt (show d < 4294967296 by omega), Nat.div_eq_of_lt (show d < 4294967296 by omega)] <;> rfl
  simp only [g62, g62b, wrapU64N, Nat.mod_eq_of_lt (show d < 18446744073709551616 by omega), e2, wrapU32, Nat.mod_eq_of_lt (show d < 4294967296 by omega)]
  rw [decide_eq_false (show ¬ (d : Int) < 0 by omega), cond_false, g88FF, e3] <;> rfl
theorem g84FF {α : Type} (m : Nat) (l : List Int) (k : Bool → Option α) : g84 m false l k = k false := by kernel_rfl
theorem dig26 {α : Type} (m d : Nat) (hd : d < 10) (k : Bool → List Int → Option α) : g55 m (d : Int) k = k false (limbs 6 d) := by
  have e2 : IntKind.wrap .u32 (Int.fdiv (d : Int) (2 ^ 32)) = 0 := by
    rw [show (2 ^ 32 : Int) = ((4294967296 : Nat) : Int) from rfl, fdivNat, Nat.div_eq_of_lt (by omega)]; rfl
  have e3 : limbs 6 d = [(d : Int), 0, 0, 0, 0, 0] := by
    simp only [limbs, Nat.mod_eq_of_lt (show d < 4294967296 by omega), Nat.div_eq_of_lt (show d < 4294967296 by omega)] <;> rfl
  simp only [g55, g55b, wrapU64N, Nat.mod_eq_of_lt (show d < 18446744073709551616 by omega), e2, wrapU32, Nat.mod_eq_of_lt (show d < 4294967296 by omega)]
  rw [decide_eq_false (show ¬ (d : Int) < 0 by omega), cond_false, g84FF, e3] <;> rfl
theorem digit_val {D : ByteArray} {i : Nat} (h : 48 ≤ byteAt D i ∧ byteAt D i ≤ 57) : IntKind.wrap .i64 (IntKind.wrap .u8 (byteAt D i - 48)) = (dig D i : Int) ∧ dig D i < 10 := by
  unfold dig
  have e : byteAt D i - 48 = (((byteAt D i - 48).toNat : Nat) : Int) := by omega
  constructor
  · rw [e, wrapU8 (by omega), wrapI64 (by omega) (by omega), Int.toNat_natCast]
  · omega
theorem valL_pos {D : ByteArray} : ∀ {d i x v : Nat}, 0 < x → valL D i d x = some v → 0 < v
  | 0, i, x, v, hx, h => by simp only [valL, Option.some.injEq] at h; omega
  | d + 1, i, x, v, hx, h => by
    simp only [valL] at h
    by_cases c1 : x * 10 < W192
    · rw [decide_eq_true c1, cond_true] at h
      by_cases c2 : x * 10 + dig D i < W192
      · rw [decide_eq_true c2, cond_true] at h
        exact valL_pos (by omega) h
      · rw [decide_eq_false c2] at h; cases h
    · rw [decide_eq_false c1] at h; cases h
theorem valL_lt {D : ByteArray} : ∀ {d i x v : Nat}, x < W192 → valL D i d x = some v → v < W192
  | 0, i, x, v, hx, h => by simp only [valL, Option.some.injEq] at h; omega
  | d + 1, i, x, v, hx, h => by
    simp only [valL] at h
    by_cases c1 : x * 10 < W192
    · rw [decide_eq_true c1, cond_true] at h
      by_cases c2 : x * 10 + dig D i < W192
      · rw [decide_eq_true c2, cond_true] at h
        exact valL_lt c2 h
      · rw [decide_eq_false c2] at h; cases h
    · rw [decide_eq_false c1] at h; cases h
end Go.Proofs.Ytobejeiffgehfaa.Sx
