import Derived.Test.YtlmmgjngihlpeaaPureQ
/- Plain laws: ShiftNear. Our own work. -/
namespace Go.Proofs.Ytlmmgjngihlpeaa.Sx
open Go
set_option linter.unusedVariables false
set_option linter.unusedSimpArgs false
set_option maxRecDepth 100000
theorem half_bit {a p : Nat} (hp : 0 < p) : a / 2 ^ (p - 1) % 2 = 1 ↔ 2 ^ (p - 1) ≤ a % 2 ^ p := by
  obtain ⟨s, rfl⟩ : ∃ s, p = s + 1 := ⟨p - 1, by omega⟩
  rw [Nat.add_sub_cancel, Nat.pow_succ, Nat.mod_mul]
  have h1 : a % 2 ^ s < 2 ^ s := Nat.mod_lt _ (Nat.two_pow_pos s)
  have h2 : a / 2 ^ s % 2 < 2 := Nat.mod_lt _ (by decide)
  generalize a / 2 ^ s % 2 = t at *
  generalize 2 ^ s = P at *
  rcases (show t = 0 ∨ t = 1 by omega) with rfl | rfl
  · simp; omega
  · simp
def nearN (q : Bool) (a p : Nat) : Nat := cond (cond q (decide (2 ^ (p - 1) < a % 2 ^ p)) (decide (2 ^ (p - 1) ≤ a % 2 ^ p))) (a / 2 ^ p + 1) (a / 2 ^ p)
theorem down_lt {a p : Nat} (hp : 0 < p) (ha : a < W192) : a / 2 ^ p + 1 < W192 := by
  obtain ⟨s, rfl⟩ : ∃ s, p = s + 1 := ⟨p - 1, by omega⟩
  have h1 : a / 2 ^ (s + 1) ≤ a / 2 := by
    rw [Nat.pow_succ, Nat.mul_comm, ← Nat.div_div_eq_div_mul]
    exact Nat.div_le_self _ _
  have ha' : a < 6277101735386680763835789423207666416102355444464034512896 := ha
  show _ < 6277101735386680763835789423207666416102355444464034512896
  omega
theorem one_up {s : Nat} (hs : s < 192) : 1 * 2 ^ s < W192 := by
  rw [Nat.one_mul, ← pow192]; exact Nat.pow_lt_pow_right (by decide) hs
theorem limbs_one : limbs 6 1 = [1, 0, 0, 0, 0, 0] := rfl
theorem odd_limb (h : Nat) : ((Int.tmod (List.getD (limbs 6 h) 0 0) 2) == 1) = decide (h % 2 = 1) := by
  rw [limbs_getD 6 h 0 (by decide), show (2 : Int) = ((2 : Nat) : Int) from rfl, ← Int.ofNat_tmod]
  have : dv 0 h % 4294967296 % 2 = h % 2 := by show h % 4294967296 % 2 = h % 2; omega
  rw [this]
  by_cases hh : h % 2 = 1
  · rw [hh]; rfl
  · rw [show h % 2 = 0 by omega]; rfl
theorem cmpN_gt (a b : Nat) : decide (cmpN a b > 0) = decide (b < a) := by
  unfold cmpN
  by_cases h1 : a < b
  · rw [if_pos h1, decide_eq_false (show ¬ b < a by omega)]; rfl
  · by_cases h2 : b < a
    · rw [if_neg h1, if_pos h2, decide_eq_true h2]; rfl
    · rw [if_neg h1, if_neg h2, decide_eq_false h2]; rfl
theorem cmpN_zero (a b : Nat) : (cmpN a b == 0) = decide (a = b) := by
  unfold cmpN
  by_cases h1 : a < b
  · rw [if_pos h1, decide_eq_false (show ¬ a = b by omega)]; rfl
  · by_cases h2 : b < a
    · rw [if_neg h1, if_pos h2, decide_eq_false (show ¬ a = b by omega)]; rfl
    · rw [if_neg h1, if_neg h2, decide_eq_true (show a = b by omega)]; rfl
theorem cmpN_le (a b : Nat) : decide (cmpN a b ≤ 0) = decide (a ≤ b) := by
  unfold cmpN
  by_cases h1 : a < b
  · rw [if_pos h1, decide_eq_true (show a ≤ b by omega)]; rfl
  · by_cases h2 : b < a
    · rw [if_neg h1, if_pos h2, decide_eq_false (show ¬ a ≤ b by omega)]; rfl
    · rw [if_neg h1, if_neg h2, decide_eq_true (show a ≤ b by omega)]; rfl
theorem g98L {α : Type} (m : Nat) (k : List Int → Option α) : g98 m k = k (limbs 6 1) := rfl
theorem g70L {α : Type} (n p : Nat) (q o : Bool) {a : Nat} (h0 : 0 < p) (hp : p < 192) (ha : a < W192) (k : Bool → List Int → Bool → Option α) :
    g70 (n + 7) q (limbs 6 a) (p : Int) o k = k (q && !(decide (nearN q a p = 0))) (limbs 6 (nearN q a p)) o := by
  have hD : a / 2 ^ p < W192 := Nat.lt_of_le_of_lt (Nat.div_le_self _ _) ha
  have hback : a / 2 ^ p * 2 ^ p ≤ a := Nat.div_mul_le_self _ _
  have hrest : a - a / 2 ^ p * 2 ^ p = a % 2 ^ p := by
    have := Nat.div_add_mod a (2 ^ p)
    rw [Nat.mul_comm] at this; omega
  have hpow := one_up (show p - 1 < 192 by omega)
  rw [Nat.one_mul] at hpow
  have hrl : a % 2 ^ p < W192 := Nat.lt_of_le_of_lt (Nat.mod_le _ _) ha
  have hD1 := down_lt h0 ha
  have e1 : IntKind.wrap .i64 ((p : Int) - 1) = ((p - 1 : Nat) : Int) := by rw [wrapI64 (by omega) (by omega)]; omega
  have hz : ((p : Int) == 0) = false := by simpa using (show (p : Int) ≠ 0 by omega)
  unfold g70 g70b
  rw [hz, e1, decide_eq_false (show ¬ (p : Int) > 191 by omega)]
  simp only [cond_false, g109L n p hp ha, g98L, g108L n (p - 1) (show p - 1 < 192 by omega) (show 1 < W192 by decide), Nat.one_mul, g108L n p hp hD, g99L n hback, hrest, g89L n hrl hpow, cmpN_gt, cmpN_zero, g97L n hD (show 1 < W192 by decide), g64L (n + 7) q hD, g64L (n + 7) q hD1]
  unfold nearN
  by_cases c1 : 2 ^ (p - 1) < a % 2 ^ p
  · rw [decide_eq_true c1, decide_eq_true (show 2 ^ (p - 1) ≤ a % 2 ^ p by omega)]
    cases q <;> rfl
  · rw [decide_eq_false c1]
    by_cases c2 : a % 2 ^ p = 2 ^ (p - 1)
    · rw [decide_eq_true c2, decide_eq_true (show 2 ^ (p - 1) ≤ a % 2 ^ p by omega)]
      cases q <;> rfl
    · rw [decide_eq_false c2, decide_eq_false (show ¬ 2 ^ (p - 1) ≤ a % 2 ^ p by omega)]
      cases q <;> rfl
theorem z191 : decide (((0 : Nat) : Int) > 191) = false := rfl
theorem zz0 : (((0 : Nat) : Int) == 0) = true := rfl
theorem g70U (m : Nat) (q o : Bool) (l : List Int) (p : Int) {α : Type} (k : Bool → List Int → Bool → Option α) : ∃ F : List Int → Option α, g70 m q l p o k = cond (decide (p > 191)) (k false [0, 0, 0, 0, 0, 0] true) (g109 m l p (fun d => cond (p == 0) (k q l o) (F d))) := by
  unfold g70 g70b
  exact ⟨_, rfl⟩
theorem g70Z {α : Type} (n : Nat) (q o : Bool) {a : Nat} (ha : a < W192) (k : Bool → List Int → Bool → Option α) : g70 (n + 7) q (limbs 6 a) ((0 : Nat) : Int) o k = k q (limbs 6 a) o := by
  obtain ⟨F, h⟩ := g70U (n + 7) q o (limbs 6 a) ((0 : Nat) : Int) k
  rw [h, z191, cond_false, g109L n 0 (by decide) ha, zz0, cond_true]
theorem g24U (m : Nat) (q : Bool) (l : List Int) (p : Int) {α : Type} (k : Bool → List Int → Int → Option α) : g24 m q l p k =
    g53 m q l (fun b => cond (!b) (k false [0, 0, 0, 0, 0, 0] 1) (g68 m p 0 191 (fun c => cond (!c) (k false [0, 0, 0, 0, 0, 0] 2) (g70 m q l p false (fun b l o => g56 m b l o (fun b l x => k b l x)))))) := by kernel_rfl
theorem g56U (m : Nat) (b : Bool) (l : List Int) {α : Type} (k : Bool → List Int → Int → Option α) : g56 m b l false k = k b l 0 := by kernel_rfl
theorem g24C (n : Nat) (q : Bool) {a : Nat} (ha : a < W192) (p : Int) {α : Type} (k : Bool → List Int → Int → Option α) : g24 (n + 40) q (limbs 6 a) p k =
    cond (!(!(q && decide (a = 0)))) (k false [0, 0, 0, 0, 0, 0] 1) (cond (!(inR p 0 191)) (k false [0, 0, 0, 0, 0, 0] 2) (g70 (n + 40) q (limbs 6 a) p false (fun b l o => g56 (n + 40) b l o (fun b l x => k b l x)))) := by
  rw [g24U, g53L (n + 40) q ha, g68E]
end Go.Proofs.Ytlmmgjngihlpeaa.Sx
/- Plain laws: RootWide. Our own work. -/
namespace Go.Proofs.Ytlmmgjngihlpeaa.Sx
open Go
set_option linter.unusedVariables false
set_option linter.unusedSimpArgs false
set_option maxRecDepth 100000
theorem g65L {α : Type} (n : Nat) {a b : Nat} (ha : a < W192) (hb : b < W192) (hs : a + b < W192) (k : Bool → List Int → Int → Option α) :
    g65 (n + 7) false (limbs 6 a) false (limbs 6 b) k = k false (limbs 6 (a + b)) 0 := by
  simp only [g65, g65b, g101L n ha hb, beq_self_eq_true, cond_true, eq_true hs, decide_true, Bool.not_true, cond_false, g52L (n + 7) false hs, Bool.false_and]
theorem g66L {α : Type} (n : Nat) {a b : Nat} (ha : a < W192) (hb : b < W192) (k : Int → Option α) : g66 (n + 7) false (limbs 6 a) false (limbs 6 b) k = k (cmpN a b) := by
  have h : g66 (n + 7) false (limbs 6 a) false (limbs 6 b) k = g105 (n + 7) (limbs 6 a) (limbs 6 b) (fun x => k x) := by kernel_rfl
  rw [h, g105L n ha hb]
def rootStep (a i R : Nat) : Nat := cond (decide ((R + 2 ^ i) * (R + 2 ^ i) ≤ a)) (R + 2 ^ i) R
theorem g72U {α : Type} (m : Nat) (la z : List Int) (k : List Int → Option α) (f : Nat) (i : Int) (l : List Int) :
    g72l0 (g98 m) (g108 m) (g97 m) (g103 m) (g89 m) la z k (f + 1) i l = cond (decide (i ≥ 0)) (g98 m (fun l1 => g108 m l1 i (fun l2 => g97 m l l2 (fun l3 b3 => g103 m l3 l3 (fun l4 b4 =>
      cond (!b4) (g89 m l4 la (fun x => cond (decide (x ≤ 0)) (g72l0 (g98 m) (g108 m) (g97 m) (g103 m) (g89 m) la z k f (IntKind.wrap .i64 (i - 1)) l3) (g72l0 (g98 m) (g108 m) (g97 m) (g103 m) (g89 m) la z k f (IntKind.wrap .i64 (i - 1)) l)))
        (g72l0 (g98 m) (g108 m) (g97 m) (g103 m) (g89 m) la z k f (IntKind.wrap .i64 (i - 1)) l)))))) (k l) := by kernel_rfl
theorem sq_lt {x a : Nat} (h : x * x ≤ a) (ha : a < W192) : x * x < W192 := Nat.lt_of_le_of_lt h ha
theorem g72s {α : Type} (n f i R : Nat) {a : Nat} (hi : i < 192) (ha : a < W192) (hR : R + 2 ^ i < W192) (z : List Int) (k : List Int → Option α) :
    g72l0 (g98 (n + 40)) (g108 (n + 40)) (g97 (n + 40)) (g103 (n + 40)) (g89 (n + 40)) (limbs 6 a) z k (f + 1) (i : Int) (limbs 6 R) =
      g72l0 (g98 (n + 40)) (g108 (n + 40)) (g97 (n + 40)) (g103 (n + 40)) (g89 (n + 40)) (limbs 6 a) z k f ((i : Int) - 1) (limbs 6 (rootStep a i R)) := by
  have hp : 2 ^ i < W192 := Nat.lt_of_le_of_lt (Nat.le_add_left _ _) hR
  have hRl : R < W192 := Nat.lt_of_le_of_lt (Nat.le_add_right _ _) hR
  rw [g72U, decide_eq_true (show (i : Int) ≥ 0 by omega), cond_true, g98L, g108L (n + 33) i hi (show 1 < W192 by decide), Nat.one_mul, g97L (n + 33) hRl hp, g103L (n + 33) hR hR, wrapI64 (x := (i : Int) - 1) (by omega) (by omega)]
  unfold rootStep
  by_cases hs : (R + 2 ^ i) * (R + 2 ^ i) < W192
  · rw [decide_eq_true hs, cond_true, Bool.not_false, cond_true, g89L (n + 33) hs ha, cmpN_le]
    cases decide ((R + 2 ^ i) * (R + 2 ^ i) ≤ a) <;> rfl
  · rw [decide_eq_false hs, cond_false, decide_eq_false (fun h => hs (sq_lt h ha))]; rfl
def rootN (a : Nat) : Nat → Nat → Nat
  | 0, R => rootStep a 0 R
  | i + 1, R => rootN a i (rootStep a (i + 1) R)
theorem rootStep_le (a i R : Nat) : rootStep a i R ≤ R + 2 ^ i := by
  unfold rootStep
  cases decide ((R + 2 ^ i) * (R + 2 ^ i) ≤ a)
  · exact Nat.le_add_right _ _
  · exact Nat.le_refl _
theorem pow98 : (2 : Nat) ^ 98 < W192 := by decide
theorem root_in {i R : Nat} (h : R + 2 ^ (i + 1) ≤ 2 ^ 98) : R + 2 ^ i < W192 := by
  have := pow98
  rw [Nat.pow_succ] at h
  omega
theorem root_next {a i R : Nat} (h : R + 2 ^ (i + 2) ≤ 2 ^ 98) : rootStep a (i + 1) R + 2 ^ (i + 1) ≤ 2 ^ 98 := by
  have h1 := rootStep_le a (i + 1) R
  have h2 : 2 ^ (i + 2) = 2 ^ (i + 1) * 2 := Nat.pow_succ ..
  omega
theorem g72loop {α : Type} (n : Nat) {a : Nat} (ha : a < W192) (z : List Int) (k : List Int → Option α) : ∀ (i f R : Nat), i < 192 → i + 1 < f → R + 2 ^ (i + 1) ≤ 2 ^ 98 →
    g72l0 (g98 (n + 40)) (g108 (n + 40)) (g97 (n + 40)) (g103 (n + 40)) (g89 (n + 40)) (limbs 6 a) z k f (i : Int) (limbs 6 R) = k (limbs 6 (rootN a i R))
  | 0, f, R, hi, hf, hR => by
    obtain ⟨f, rfl⟩ : ∃ j, f = j + 2 := ⟨f - 2, by omega⟩
    rw [g72s n (f + 1) 0 R hi ha (root_in hR), g72U, decide_eq_false (show ¬ ((0 : Nat) : Int) - 1 ≥ 0 by omega)]; rfl
  | i + 1, f, R, hi, hf, hR => by
    obtain ⟨f, rfl⟩ : ∃ j, f = j + 1 := ⟨f - 1, by omega⟩
    rw [g72s n f (i + 1) R hi ha (root_in hR), show ((i + 1 : Nat) : Int) - 1 = (i : Int) by omega]
    exact g72loop n ha z k i f _ (by omega) (by omega) (root_next hR)
theorem half_start {b : Nat} (hb : b ≤ 192) : IntKind.wrap .i64 (Int.tdiv (IntKind.wrap .i64 ((b : Int) + 1)) 2) = (((b + 1) / 2 : Nat) : Int) := by
  rw [wrapI64 (x := (b : Int) + 1) (by omega) (by omega), show (b : Int) + 1 = ((b + 1 : Nat) : Int) by omega, show (2 : Int) = ((2 : Nat) : Int) from rfl, ← Int.ofNat_tdiv, wrapI64 (by omega) (by omega)]
theorem start_ok {b : Nat} (hb : b ≤ 192) : 0 + 2 ^ ((b + 1) / 2 + 1) ≤ 2 ^ 98 := by
  rw [Nat.zero_add]; exact Nat.pow_le_pow_right (by decide) (by omega)
theorem g72M {α : Type} (m : Nat) (l : List Int) (k : List Int → Option α) : g72 m l k = g107 m l (fun x => g72l0 (g98 m) (g108 m) (g97 m) (g103 m) (g89 m) l [0, 0, 0, 0, 0, 0] (fun l => k l) m (IntKind.wrap .i64 (Int.tdiv (IntKind.wrap .i64 (x + 1)) 2)) [0, 0, 0, 0, 0, 0]) := by kernel_rfl
theorem g27U {α : Type} (m : Nat) (q : Bool) (l : List Int) (k : Bool → List Int → Int → Option α) : g27 m q l k = g53 m q l (fun b => cond (!b) (k false [0, 0, 0, 0, 0, 0] 1) (cond q (k false [0, 0, 0, 0, 0, 0] 2) (g72 m l (fun l' => g64 m false l' (fun b => k b l' 0))))) := by kernel_rfl
end Go.Proofs.Ytlmmgjngihlpeaa.Sx
/- Plain laws: ReadWide. Our own work. -/
namespace Go.Proofs.Ytlmmgjngihlpeaa.Sx
open Go
set_option linter.unusedVariables false
set_option linter.unusedSimpArgs false
set_option maxRecDepth 100000
theorem bytes_loop (b : ByteArray) : ∀ (n i : Nat) (r : List UInt8), b.size - i = n → ByteArray.toList.loop b i r = r.reverse ++ b.data.toList.drop i
  | 0, i, r, h => by
    unfold ByteArray.toList.loop
    rw [if_neg (by omega), List.drop_eq_nil_of_le (by simpa using (show b.data.size ≤ i from (by have : b.size = b.data.size := rfl; omega))), List.append_nil]
  | n + 1, i, r, h => by
    unfold ByteArray.toList.loop
    have hs : b.size = b.data.size := rfl
    have hi : i < b.data.toList.length := by simp; omega
    rw [if_pos (by omega), bytes_loop b n (i + 1) _ (by omega), List.drop_eq_getElem_cons hi]
    have : b.get! i = b.data.toList[i] := by
      show b.data[i]! = _
      rw [getElem!_pos b.data i (by simpa using hi)]
      simp
    rw [this]; simp
theorem bytes_toList (b : ByteArray) : b.toList = b.data.toList := by
  unfold ByteArray.toList
  rw [bytes_loop b _ 0 [] rfl]; rfl
theorem bytesEq_list (a b : ByteArray) : bytesEq a b = decide (a.data.toList = b.data.toList) := by
  unfold bytesEq
  rw [bytes_toList, bytes_toList]
  by_cases h : a.data.toList = b.data.toList
  · rw [decide_eq_true h, h]; simp
  · rw [decide_eq_false h]; simpa using h
theorem size_list (b : ByteArray) : b.size = b.data.toList.length := by simp
theorem bytesEq_nil (a : ByteArray) : bytesEq a (⟨#[]⟩ : ByteArray) = decide (a.size = 0) := by
  rw [bytesEq_list]
  congr 1
  rw [size_list]
  simp only [eq_iff_iff]
  cases hl : a.data.toList with
  | nil => simp
  | cons x r => simp
theorem byte_range (s : ByteArray) (i : Nat) : 0 ≤ byteAt s i ∧ byteAt s i < 256 := by
  unfold byteAt
  have := (s.data.toList.getD i 0).toNat_lt
  omega
theorem byte_eq {s : ByteArray} {x : UInt8} {r : List UInt8} (h : s.data.toList = x :: r) (c : UInt8) : (byteAt s 0 == (c.toNat : Int)) = decide (x = c) := by
  unfold byteAt
  rw [h]
  simp only [List.getD_cons_zero]
  by_cases hx : x = c
  · subst hx; simp
  · rw [decide_eq_false hx]
    have : x.toNat ≠ c.toNat := fun e => hx (UInt8.toNat_inj.1 e)
    simp; omega
theorem zero_text {z : ByteArray} {x : UInt8} {r : List UInt8} (h : z.data.toList = x :: r) : bytesEq z (⟨#[48]⟩ : ByteArray) = (decide (x = 48) && decide (z.size = 1)) := by
  rw [bytesEq_list, h, size_list, h]
  by_cases hx : x = 48
  · subst hx
    cases r <;> simp
  · simp [hx]
theorem prefix_text {z : ByteArray} {x : UInt8} {r : List UInt8} (h : z.data.toList = x :: r) : bytesEq (ByteArray.extract z 0 1) (⟨#[45]⟩ : ByteArray) = decide (x = 45) := by
  rw [bytesEq_list, ByteArray.data_extract, Array.toList_extract, h]
  simp [List.extract]
/-! ### Digits -/
def okL (D : ByteArray) : Nat → Nat → Bool
  | _, 0 => true
  | i, d + 1 => cond (decide (byteAt D i < 48)) false (cond (decide (byteAt D i > 57)) false (okL D (i + 1) d))
def dig (D : ByteArray) (i : Nat) : Nat := (byteAt D i - 48).toNat
def valL (D : ByteArray) : Nat → Nat → Nat → Option Nat
  | _, 0, x => some x
  | i, d + 1, x => cond (decide (x * 10 < W192)) (cond (decide (x * 10 + dig D i < W192)) (valL D (i + 1) d (x * 10 + dig D i)) none) none
theorem okL_spec {D : ByteArray} : ∀ {d i : Nat}, okL D i d = true → ∀ j, i ≤ j → j < i + d → 48 ≤ byteAt D j ∧ byteAt D j ≤ 57
  | 0, i, h, j, h1, h2 => by omega
  | d + 1, i, h, j, h1, h2 => by
    simp only [okL] at h
    by_cases c1 : byteAt D i < 48
    · rw [decide_eq_true c1] at h; cases h
    · rw [decide_eq_false c1] at h
      by_cases c2 : byteAt D i > 57
      · rw [decide_eq_true c2] at h; cases h
      · rw [decide_eq_false c2] at h
        simp only [cond_false] at h
        by_cases hj : j = i
        · subst hj; omega
        · exact okL_spec h j (by omega) (by omega)
theorem g65F {α : Type} (n : Nat) {a b : Nat} (ha : a < W192) (hb : b < W192) (k : Bool → List Int → Int → Option α) :
    g65 (n + 7) false (limbs 6 a) false (limbs 6 b) k = cond (decide (a + b < W192)) (k false (limbs 6 (a + b)) 0) (k false [0, 0, 0, 0, 0, 0] 3) := by
  simp only [g65, g65b, g101L n ha hb, beq_self_eq_true, cond_true]
  by_cases hs : a + b < W192
  · rw [decide_eq_true hs]
    simp only [cond_true, Bool.not_true, cond_false, g52L (n + 7) false hs, Bool.false_and]
  · rw [decide_eq_false hs]; rfl
theorem g64F {α : Type} (m : Nat) (l : List Int) (k : Bool → Option α) : g64 m false l k = k false := by kernel_rfl
theorem g62F {α : Type} (n : Nat) {a b : Nat} (ha : a < W192) (hb : b < W192) (o : Bool) (k : Bool → List Int → Bool → Option α) :
    g62 (n + 7) false (limbs 6 a) false (limbs 6 b) o k = k false (limbs 6 (a + b)) (o || !(decide (a + b < W192))) := by
  simp only [g62, g62b, g97L n ha hb, beq_self_eq_true, cond_true, g64F]
  cases o <;> rfl
theorem ten66 {α : Type} (m : Nat) (k : Bool → List Int → Option α) : g110 m 10 k = k false (limbs 6 10) := by kernel_rfl
theorem ten26 {α : Type} (m : Nat) (k : Bool → List Int → Option α) : g19 m 10 k = k false (limbs 6 10) := by kernel_rfl
theorem g52FF {α : Type} (m : Nat) (l : List Int) (k : Bool → Option α) : g52 m false l k = k false := by kernel_rfl
theorem dig66 {α : Type} (m d : Nat) (hd : d < 10) (k : Bool → List Int → Option α) : g110 m (d : Int) k = k false (limbs 6 d) := by
  have e2 : IntKind.wrap .u32 (Int.fdiv (d : Int) (2 ^ 32)) = 0 := by
    rw [show (2 ^ 32 : Int) = ((4294967296 : Nat) : Int) from rfl, fdivNat, Nat.div_eq_of_lt (by omega)]; rfl
  have e3 : limbs 6 d = [(d : Int), 0, 0, 0, 0, 0] := by
    simp only [limbs, Nat.mod_eq_of_lt (show d < 4294967296 by omega), Nat.div_eq_of_lt (show d < 4294967296 by omega)] <;> rfl
  simp only [g110, g110b, wrapU64N, Nat.mod_eq_of_lt (show d < 18446744073709551616 by omega), e2, wrapU32, Nat.mod_eq_of_lt (show d < 4294967296 by omega)]
  rw [decide_eq_false (show ¬ (d : Int) < 0 by omega), cond_false, g52FF, e3] <;> rfl
theorem g64FF {α : Type} (m : Nat) (l : List Int) (k : Bool → Option α) : g64 m false l k = k false := by kernel_rfl
theorem dig26 {α : Type} (m d : Nat) (hd : d < 10) (k : Bool → List Int → Option α) : g19 m (d : Int) k = k false (limbs 6 d) := by
  have e2 : IntKind.wrap .u32 (Int.fdiv (d : Int) (2 ^ 32)) = 0 := by
    rw [show (2 ^ 32 : Int) = ((4294967296 : Nat) : Int) from rfl, fdivNat, Nat.div_eq_of_lt (by omega)]; rfl
  have e3 : limbs 6 d = [(d : Int), 0, 0, 0, 0, 0] := by
    simp only [limbs, Nat.mod_eq_of_lt (show d < 4294967296 by omega), Nat.div_eq_of_lt (show d < 4294967296 by omega)] <;> rfl
  simp only [g19, g19b, wrapU64N, Nat.mod_eq_of_lt (show d < 18446744073709551616 by omega), e2, wrapU32, Nat.mod_eq_of_lt (show d < 4294967296 by omega)]
  rw [decide_eq_false (show ¬ (d : Int) < 0 by omega), cond_false, g64FF, e3] <;> rfl
theorem digit_val {D : ByteArray} {i : Nat} (h : 48 ≤ byteAt D i ∧ byteAt D i ≤ 57) : IntKind.wrap .i64 (IntKind.wrap .u8 (byteAt D i - 48)) = (dig D i : Int) ∧ dig D i < 10 := by
  unfold dig
  have e : byteAt D i - 48 = (((byteAt D i - 48).toNat : Nat) : Int) := by omega
  constructor
  · rw [e, wrapU8 (by omega), wrapI64 (by omega) (by omega), Int.toNat_natCast]
  · omega
theorem valL_pos {D : ByteArray} : ∀ {d i x v : Nat}, 0 < x → valL D i d x = some v → 0 < v
  | 0, i, x, v, hx, h => by simp only [valL, Option.some.injEq] at h; omega
  | d + 1, i, x, v, hx, h => by
    simp only [valL] at h
    by_cases c1 : x * 10 < W192
    · rw [decide_eq_true c1, cond_true] at h
      by_cases c2 : x * 10 + dig D i < W192
      · rw [decide_eq_true c2, cond_true] at h
        exact valL_pos (by omega) h
      · rw [decide_eq_false c2] at h; cases h
    · rw [decide_eq_false c1] at h; cases h
theorem valL_lt {D : ByteArray} : ∀ {d i x v : Nat}, x < W192 → valL D i d x = some v → v < W192
  | 0, i, x, v, hx, h => by simp only [valL, Option.some.injEq] at h; omega
  | d + 1, i, x, v, hx, h => by
    simp only [valL] at h
    by_cases c1 : x * 10 < W192
    · rw [decide_eq_true c1, cond_true] at h
      by_cases c2 : x * 10 + dig D i < W192
      · rw [decide_eq_true c2, cond_true] at h
        exact valL_lt c2 h
      · rw [decide_eq_false c2] at h; cases h
    · rw [decide_eq_false c1] at h; cases h
end Go.Proofs.Ytlmmgjngihlpeaa.Sx
/- Plain laws: ReadWide, the whole. Our own work. -/
namespace Go.Proofs.Ytlmmgjngihlpeaa.Sx
open Go
set_option linter.unusedVariables false
set_option linter.unusedSimpArgs false
set_option maxRecDepth 100000
theorem ext_size (z : ByteArray) : (ByteArray.extract z 1 z.size).size = z.size - 1 := by simp
end Go.Proofs.Ytlmmgjngihlpeaa.Sx
