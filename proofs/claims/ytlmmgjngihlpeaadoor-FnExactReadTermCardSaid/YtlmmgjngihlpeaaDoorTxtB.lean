/- Plain laws: the library's text of a number. Our own work. -/
import Derived.Test.YtlmmgjngihlpeaaDoorTxtA
namespace Go.Proofs.YtlmmgjngihlpeaaDoor.Sx
open Go
set_option linter.unusedVariables false
set_option linter.unusedSimpArgs false
set_option maxRecDepth 100000
theorem fdivP (a s : Nat) : Int.fdiv (a : Int) (2 ^ s) = ((a / 2 ^ s : Nat) : Int) := by
  rw [show ((2 : Int) ^ s) = ((2 ^ s : Nat) : Int) by norm_cast]; exact fdivNat a _
theorem len64 {α : Type} (m : Nat) {p b : Nat} (hp : p < 18446744073709551616) (hb : isLen p b = true) (k : Int → Option α) : g136 m (p : Int) k = k (b : Int) := by
  have fin : ∀ (x s : Nat) (c : Int), x < 256 → p / 2 ^ s = x → (s = 0 ∨ 0 < x) → s ≤ 56 → c = (s : Int) →
      (if 0 ≤ (x : Int) ∧ (x : Int) < (strC0.size : Nat) then k (IntKind.wrap .i64 (c + (IntKind.wrap .i64 (byteAt strC0 (x : Int).toNat)))) else none) = k (b : Int) := by
    intro x s c hx hps hs hs2 hc
    subst hc
    obtain ⟨d, hd, hl⟩ := table_len hx
    have hd8 := isLen_le hl (c := 8) hx
    rw [strC0_size, if_pos (by omega), Int.toNat_natCast, hd, wrapI64 (x := (d : Int)) (by omega) (by omega), wrapI64 (x := (s : Int) + (d : Int)) (by omega) (by omega)]
    have : b = d + s := by
      rcases hs with rfl | hs
      · rw [Nat.pow_zero, Nat.div_one] at hps
        rw [hps] at hb
        exact isLen_unique hb hl
      · exact isLen_unique hb (isLen_shift (by rw [hps]; exact hl) (isLen_pos hl hs))
    rw [this]
    congr 1
    omega
  have d48 : p / 2 ^ 32 / 2 ^ 16 = p / 2 ^ 48 := by rw [Nat.div_div_eq_div_mul]
  have d56 : p / 2 ^ 48 / 2 ^ 8 = p / 2 ^ 56 := by rw [Nat.div_div_eq_div_mul]
  have d40 : p / 2 ^ 32 / 2 ^ 8 = p / 2 ^ 40 := by rw [Nat.div_div_eq_div_mul]
  have d24 : p / 2 ^ 16 / 2 ^ 8 = p / 2 ^ 24 := by rw [Nat.div_div_eq_div_mul]
  rw [g136_o]
  dsimp only
  by_cases h1 : p ≥ 4294967296
  · rw [dT (by omega), cond_true, fdivP p 32]
    by_cases h2 : p / 2 ^ 32 ≥ 65536
    · rw [dT (by omega), cond_true, fdivP _ 16, d48]
      by_cases h3 : p / 2 ^ 48 ≥ 256
      · rw [dT (by omega), cond_true, fdivP _ 8, d56, wrapU8 (by omega)]
        exact fin _ 56 56 (by omega) rfl (by omega) (by omega) rfl
      · rw [dF (by omega), cond_false, wrapU8 (by omega)]
        exact fin _ 48 48 (by omega) rfl (by omega) (by omega) rfl
    · rw [dF (by omega), cond_false]
      by_cases h3 : p / 2 ^ 32 ≥ 256
      · rw [dT (by omega), cond_true, fdivP _ 8, d40, wrapU8 (by omega)]
        exact fin _ 40 40 (by omega) rfl (by omega) (by omega) rfl
      · rw [dF (by omega), cond_false, wrapU8 (by omega)]
        exact fin _ 32 32 (by omega) rfl (by omega) (by omega) rfl
  · rw [dF (by omega), cond_false]
    by_cases h2 : p ≥ 65536
    · rw [dT (by omega), cond_true, fdivP p 16]
      by_cases h3 : p / 2 ^ 16 ≥ 256
      · rw [dT (by omega), cond_true, fdivP _ 8, d24, wrapU8 (by omega)]
        exact fin _ 24 24 (by omega) rfl (by omega) (by omega) rfl
      · rw [dF (by omega), cond_false, wrapU8 (by omega)]
        exact fin _ 16 16 (by omega) rfl (by omega) (by omega) rfl
    · rw [dF (by omega), cond_false]
      by_cases h3 : p ≥ 256
      · rw [dT (by omega), cond_true, fdivP p 8, wrapU8 (by omega)]
        exact fin _ 8 8 (by omega) rfl (by omega) (by omega) rfl
      · rw [dF (by omega), cond_false, wrapU8 (by omega)]
        exact fin p 0 0 (by omega) (by simp) (.inl rfl) (by omega) rfl
def lgc (b : Nat) : Nat := b * 78913 / 2 ^ 18
def lgTab : Bool := (List.range 65).all fun b => b == 0 || (decide (2 ^ b ≤ 10 ^ (lgc b + 1)) && ((lgc b == 0 || decide (10 ^ (lgc b - 1) ≤ 2 ^ (b - 1))) && decide (lgc b < 20)))
theorem lgTab_ok : lgTab = true := by decide +kernel
theorem lg_spec {b : Nat} (h0 : 0 < b) (h : b ≤ 64) : 2 ^ b ≤ 10 ^ (lgc b + 1) ∧ (lgc b = 0 ∨ 10 ^ (lgc b - 1) ≤ 2 ^ (b - 1)) ∧ lgc b < 20 := by
  have h1 := (List.all_eq_true.1 lgTab_ok) b (List.mem_range.2 (by omega))
  simp only [Bool.or_eq_true, Bool.and_eq_true, beq_iff_eq, decide_eq_true_eq] at h1
  rcases h1 with h1 | h1
  · omega
  · exact h1
def p10Tab : Bool := (List.range 20).all fun c => decide (List.getD pow10L c 0 = ((10 ^ c : Nat) : Int))
theorem p10_ok {c : Nat} (h : c < 20) : List.getD pow10L c 0 = ((10 ^ c : Nat) : Int) := by
  have h0 : p10Tab = true := by decide +kernel
  have h1 := (List.all_eq_true.1 h0) c (List.mem_range.2 h)
  simpa using h1
theorem p10_len : pow10L.length = 20 := by decide
theorem numDig {α : Type} (m : Nat) {p : Nat} (h0 : 0 < p) (hp : p < 18446744073709551616) (k : Int → Option α) : g127 m (p : Int) k = k (ndig p : Int) := by
  have hb : isLen p (Nat.log2 p + 1) = true := by
    rw [isLen_iff]
    exact ⟨Nat.lt_log2_self, .inr (Nat.log2_self_le (by omega))⟩
  have hb64 : Nat.log2 p + 1 ≤ 64 := isLen_le hb (c := 64) hp
  have hlt : p < 2 ^ (Nat.log2 p + 1) := Nat.lt_log2_self
  have hge : 2 ^ (Nat.log2 p + 1 - 1) ≤ p := Nat.log2_self_le (by omega)
  obtain ⟨t1, t2, t3⟩ := lg_spec (b := Nat.log2 p + 1) (by omega) hb64
  rw [g127_o, len64 m hp hb, g135_o]
  generalize Nat.log2 p + 1 = b at *
  have el : Int.fdiv (IntKind.wrap .i64 ((b : Int) * (78913 : Int))) (2 ^ 18) = (lgc b : Int) := by
    rw [wrapI (by omega) (by omega), show (b : Int) * 78913 = ((b * 78913 : Nat) : Int) by omega, fdivP]; rfl
  rw [el, if_pos (by omega), Int.toNat_natCast, p10_len, if_pos t3, p10_ok t3, g137_o]
  generalize lgc b = c at *
  by_cases h : 10 ^ c ≤ p
  · rw [dT (by omega), cond_true, wrapI (by omega) (by omega), ndig_unique (k := c + 1) h0 (by omega) h]; rfl
  · rw [dF (by omega), cond_false, wrapI (by omega) (by omega), Int.add_zero]
    rcases t2 with t2 | t2
    · subst t2
      simp at h; omega
    · rw [ndig_unique (k := c) h0 (by omega) (by omega)]
theorem strC2_size : strC2.size = 200 := by kernel_rfl
def smTab : Bool := (List.range 100).all fun y => decide (byteAt strC2 (2 * y) = 48 + ((y / 10 : Nat) : Int)) && decide (byteAt strC2 (2 * y + 1) = 48 + ((y % 10 : Nat) : Int))
theorem sm_ok {y : Nat} (h : y < 100) : byteAt strC2 (2 * y) = 48 + ((y / 10 : Nat) : Int) ∧ byteAt strC2 (2 * y + 1) = 48 + ((y % 10 : Nat) : Int) := by
  have h0 : smTab = true := by kernel_rfl
  have h1 := (List.all_eq_true.1 h0) y (List.mem_range.2 h)
  simpa using h1
theorem set_take {l R : List Int} {n : Nat} (h0 : 0 < n) (hn : n ≤ l.length) (x : Int) : (l.take n ++ R).set (n - 1) x = l.take (n - 1) ++ x :: R := by
  obtain ⟨n, rfl⟩ : ∃ k, n = k + 1 := ⟨n - 1, by omega⟩
  rw [Nat.add_sub_cancel, ← take_snoc l (show n < l.length by omega), List.append_assoc, List.set_append_right _ _ (by rw [List.length_take]; omega), List.length_take, show n - min n l.length = 0 by omega]; rfl
section
variable {l : List Int} {off nd u : Nat}
def fb (l : List Int) (off nd u j : Nat) : List Int := l.take (off + nd - j) ++ (padL j u ++ l.drop (off + nd))
theorem fb_set (hl : off + nd ≤ l.length) {j i : Nat} (hj : j < nd) (hi : i = off + (nd - j - 1)) {x : Int} (hx : x = 48 + ((u / 10 ^ j % 10 : Nat) : Int)) : (fb l off nd u j).set i x = fb l off nd u (j + 1) := by
  subst hi; subst hx
  unfold fb
  rw [show off + (nd - j - 1) = off + nd - j - 1 by omega, set_take (by omega) (by omega), padL_cons]; rfl
end
end Go.Proofs.YtlmmgjngihlpeaaDoor.Sx
