import Derived.Test.YtobejeiffgehfaaPureE
namespace Go.Proofs.Ytobejeiffgehfaa.Sx
open Go
set_option linter.unusedVariables false
set_option linter.unusedSimpArgs false
set_option maxRecDepth 100000
/-- v has b bits -/
def isLen (v b : Nat) : Bool := decide (v < 2 ^ b) && (b == 0 || decide (2 ^ (b - 1) ≤ v))
theorem isLen_iff {v b : Nat} : isLen v b = true ↔ v < 2 ^ b ∧ (b = 0 ∨ 2 ^ (b - 1) ≤ v) := by simp [isLen]
theorem isLen_unique {v b c : Nat} (h : isLen v b = true) (h' : isLen v c = true) : b = c := by
  rw [isLen_iff] at h h'
  obtain ⟨h1, h2⟩ := h
  obtain ⟨h3, h4⟩ := h'
  rcases Nat.lt_trichotomy b c with hlt | rfl | hlt
  · have hp : 2 ^ b ≤ 2 ^ (c - 1) := Nat.pow_le_pow_right (by decide) (by omega)
    omega
  · rfl
  · have hp : 2 ^ c ≤ 2 ^ (b - 1) := Nat.pow_le_pow_right (by decide) (by omega)
    omega
theorem isLen_shift {v b s : Nat} (h : isLen (v / 2 ^ s) b = true) (hb : 0 < b) : isLen v (b + s) = true := by
  rw [isLen_iff] at h ⊢
  obtain ⟨h1, h2⟩ := h
  rcases h2 with h2 | h2
  · omega
  · refine ⟨?_, .inr ?_⟩
    · rw [Nat.pow_add]
      exact (Nat.div_lt_iff_lt_mul (Nat.two_pow_pos s)).1 h1
    · rw [show b + s - 1 = (b - 1) + s by omega, Nat.pow_add]
      exact (Nat.le_div_iff_mul_le (Nat.two_pow_pos s)).1 h2
def tableB : Bool := (List.range 256).all fun x => isLen x ((byteAt strC0 x).toNat) && decide (0 ≤ byteAt strC0 x)
theorem tableOk : tableB = true := by kernel_rfl
theorem table_len {x : Nat} (h : x < 256) : ∃ b : Nat, byteAt strC0 x = (b : Int) ∧ isLen x b = true := by
  have h0 := tableOk
  unfold tableB at h0
  rw [List.all_eq_true] at h0
  have h1 := h0 x (List.mem_range.2 h)
  rw [Bool.and_eq_true, decide_eq_true_eq] at h1
  exact ⟨(byteAt strC0 x).toNat, (Int.toNat_of_nonneg h1.2).symm, h1.1⟩
theorem strC0_size : strC0.size = 256 := by kernel_rfl
theorem isLen_le {x b : Nat} (h : isLen x b = true) {c : Nat} (hx : x < 2 ^ c) : b ≤ c := by
  rw [isLen_iff] at h
  rcases h.2 with h2 | h2
  · omega
  · rcases Nat.lt_or_ge c b with hlt | hge
    · have hp : 2 ^ c ≤ 2 ^ (b - 1) := Nat.pow_le_pow_right (by decide) (by omega)
      omega
    · exact hge
theorem isLen_pos {x b : Nat} (h : isLen x b = true) (hx : 0 < x) : 0 < b := by
  rw [isLen_iff] at h
  rcases Nat.eq_zero_or_pos b with rfl | hb
  · simp at h; omega
  · exact hb
theorem wrapU8 {x : Nat} (h : x < 256) : IntKind.wrap .u8 (x : Int) = x := by
  unfold IntKind.wrap; simp only [IntKind.signed, IntKind.bits]; simp; omega
theorem wrapI64 {x : Int} (h0 : -9223372036854775808 ≤ x) (h1 : x ≤ 9223372036854775807) : IntKind.wrap .i64 x = x := by
  unfold IntKind.wrap; simp only [IntKind.signed, IntKind.bits]; simp; omega
theorem fdivNat (x y : Nat) : Int.fdiv (x : Int) (y : Int) = ((x / y : Nat) : Int) := by
  rw [Int.fdiv_eq_ediv_of_nonneg _ (by omega)]; simp
theorem g103Eq {α : Type} (n : Nat) {p b : Nat} (hp : p < 4294967296) (hb : isLen p b = true) (k : Int → Option α) : g103 n (p : Int) k = k (b : Int) := by
  have fin : ∀ (x s : Nat) (c : Int), x < 256 → p / 2 ^ s = x → (s = 0 ∨ 0 < x) → s ≤ 24 → c = (s : Int) →
      (if 0 ≤ (x : Int) ∧ (x : Int) < (strC0.size : Nat) then k (IntKind.wrap .i64 (c + (IntKind.wrap .i64 (byteAt strC0 (x : Int).toNat)))) else none) = k (b : Int) := by
    intro x s c hx hps hs hs2 hc
    subst hc
    obtain ⟨d, hd, hl⟩ := table_len hx
    have hd8 := isLen_le hl (c := 8) hx
    rw [strC0_size, if_pos (by omega), Int.toNat_natCast, hd, wrapI64 (x := (d : Int)) (by omega) (by omega), wrapI64 (x := (s : Int) + (d : Int)) (by omega) (by omega)]
    have : b = d + s := by
      rcases hs with rfl | hs
      · rw [Nat.pow_zero, Nat.div_one] at hps
        rw [hps] at hb
        exact isLen_unique hb hl
      · exact isLen_unique hb (isLen_shift (by rw [hps]; exact hl) (isLen_pos hl hs))
    rw [this]
    congr 1
    omega
  unfold g103 g103b
  have e16 : Int.fdiv (p : Int) (2 ^ 16) = ((p / 2 ^ 16 : Nat) : Int) := fdivNat p (2 ^ 16)
  have e8 : Int.fdiv (p : Int) (2 ^ 8) = ((p / 2 ^ 8 : Nat) : Int) := fdivNat p (2 ^ 8)
  have e24 : Int.fdiv ((p / 2 ^ 16 : Nat) : Int) (2 ^ 8) = ((p / 2 ^ 24 : Nat) : Int) := by
    rw [show (2 ^ 8 : Int) = ((2 ^ 8 : Nat) : Int) from rfl, fdivNat, Nat.div_div_eq_div_mul]
  by_cases h1 : p ≥ 65536
  · rw [show decide ((p : Int) ≥ 65536) = true by simp; try omega]
    simp only [cond_true, e16]
    by_cases h2 : p / 2 ^ 16 ≥ 256
    · rw [show decide (((p / 2 ^ 16 : Nat) : Int) ≥ 256) = true by simp; try omega]
      simp only [cond_true, e24]
      rw [wrapU8 (by omega)]
      exact fin _ 24 24 (by omega) rfl (by omega) (by omega) rfl
    · rw [show decide (((p / 2 ^ 16 : Nat) : Int) ≥ 256) = false by simp; try omega]
      simp only [cond_false]
      rw [wrapU8 (by omega)]
      exact fin _ 16 16 (by omega) rfl (by omega) (by omega) rfl
  · rw [show decide ((p : Int) ≥ 65536) = false by simp; try omega]
    simp only [cond_false, e8]
    by_cases h2 : p ≥ 256
    · rw [show decide ((p : Int) ≥ 256) = true by simp; try omega]
      simp only [cond_true]
      rw [wrapU8 (by omega)]
      exact fin _ 8 8 (by omega) rfl (by omega) (by omega) rfl
    · rw [show decide ((p : Int) ≥ 256) = false by simp; try omega]
      simp only [cond_false]
      rw [wrapU8 (by omega)]
      exact fin p 0 0 (by omega) (by simp) (.inl rfl) (by omega) rfl
end Go.Proofs.Ytobejeiffgehfaa.Sx
