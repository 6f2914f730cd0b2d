import Derived.Test.YtobejeiffgehfaaPureF
namespace Go.Proofs.Ytobejeiffgehfaa.Sx
open Go
set_option linter.unusedVariables false
set_option linter.unusedSimpArgs false
set_option maxRecDepth 100000
theorem g101l2S {α : Type} (w : Int) (a : List Int) (k : Int → Option α) (n : Nat) (x y : Int) : g101l2 w a k (n + 1) x y =
    cond (decide (y > 0)) (g101l2 w a k n (IntKind.wrap .i64 (x + 1)) (Int.fdiv y (2 ^ 1))) (k x) := by kernel_rfl
theorem g101l2Eq {α : Type} (w : Int) (a : List Int) (k : Int → Option α) : ∀ (b v c n : Nat), isLen v b = true → c + b ≤ 1000 → g101l2 w a k (n + b + 1) (c : Int) (v : Int) = k ((c + b : Nat) : Int)
  | 0, v, c, n, h, hc => by
    rw [isLen_iff] at h
    have hv : v = 0 := by omega
    subst hv
    simp only [g101l2, g101l2b]
    rfl
  | b + 1, v, c, n, h, hc => by
    rw [isLen_iff] at h
    have h2 : 2 ^ b ≤ v := by
      rcases h.2 with h2 | h2
      · omega
      · simpa using h2
    have hpos : 0 < v := by have := Nat.two_pow_pos b; omega
    have hh : isLen (v / 2) b = true := by
      rw [isLen_iff]
      refine ⟨by have := h.1; rw [Nat.pow_succ] at this; omega, ?_⟩
      cases b with
      | zero => exact .inl rfl
      | succ b => right; rw [Nat.pow_succ] at h2; simp only [Nat.add_sub_cancel]; omega
    rw [show n + (b + 1) + 1 = (n + b + 1) + 1 by omega]
    rw [g101l2S]
    rw [show decide ((v : Int) > 0) = true by simpa using hpos]
    simp only [cond_true]
    rw [wrapI64 (x := (c : Int) + 1) (by omega) (by omega), show (2 ^ 1 : Int) = ((2 : Nat) : Int) from rfl, fdivNat, show (c : Int) + 1 = ((c + 1 : Nat) : Int) by omega,
      g101l2Eq w a k b (v / 2) (c + 1) n hh (by omega)]
    congr 1; omega
theorem g101U {α : Type} (a b c d e f : Int) (k : Int → Option α) : g101 40 [a, b, c, d, e, f] k = (cond (f == 0) (cond (e == 0) (cond (d == 0) (cond (c == 0) (cond (b == 0) (cond (a == 0) (k 0) (g101l2 0 [a, b, c, d, e, f] (fun x => k (IntKind.wrap .i64 (0 + x))) 40 0 a)) (g101l2 1 [a, b, c, d, e, f] (fun x => k (IntKind.wrap .i64 (32 + x))) 40 0 b)) (g101l2 2 [a, b, c, d, e, f] (fun x => k (IntKind.wrap .i64 (64 + x))) 40 0 c)) (g101l2 3 [a, b, c, d, e, f] (fun x => k (IntKind.wrap .i64 (96 + x))) 40 0 d)) (g101l2 4 [a, b, c, d, e, f] (fun x => k (IntKind.wrap .i64 (128 + x))) 40 0 e)) (g101l2 5 [a, b, c, d, e, f] (fun x => k (IntKind.wrap .i64 (160 + x))) 40 0 f)) := by kernel_rfl
theorem g93U {α : Type} (a b c d e f : Int) (k : Int → Option α) : g93 40 [a, b, c, d, e, f] k = (cond (f != 0) (g103 40 f (fun x => k (IntKind.wrap .i64 (160 + x)))) (cond (e != 0) (g103 40 e (fun x => k (IntKind.wrap .i64 (128 + x)))) (cond (d != 0) (g103 40 d (fun x => k (IntKind.wrap .i64 (96 + x)))) (cond (c != 0) (g103 40 c (fun x => k (IntKind.wrap .i64 (64 + x)))) (cond (b != 0) (g103 40 b (fun x => k (IntKind.wrap .i64 (32 + x)))) (cond (a != 0) (g103 40 a (fun x => k (IntKind.wrap .i64 (0 + x)))) (k 0))))))) := by kernel_rfl
theorem len_ex (v : Nat) (h : v < 4294967296) : ∃ b, isLen v b = true ∧ b ≤ 32 := by
  by_cases h0 : v = 0
  · exact ⟨0, by rw [h0]; rfl, by omega⟩
  · refine ⟨v.log2 + 1, ?_, ?_⟩
    · rw [isLen_iff]
      exact ⟨Nat.lt_log2_self, .inr (by simpa using Nat.log2_self_le h0)⟩
    · have := (Nat.log2_lt h0 (k := 32)).2 h
      omega
theorem sizeStep {α : Type} (w c x : Int) (l : List Int) (r : Option α) (k : Int → Option α) (hx : 0 ≤ x ∧ x ≤ 4294967295) :
    cond (x == 0) r (g101l2 w l (fun y => k (IntKind.wrap .i64 (c + y))) 40 0 x) = cond (x != 0) (g103 40 x (fun y => k (IntKind.wrap .i64 (c + y)))) r := by
  by_cases h0 : x = 0
  · subst h0; rfl
  · obtain ⟨v, rfl⟩ : ∃ v : Nat, x = v := ⟨x.toNat, by omega⟩
    obtain ⟨b, hb, hb2⟩ := len_ex v (by omega)
    rw [show ((v : Int) == 0) = false by simpa using h0, show ((v : Int) != 0) = true by simpa using h0]
    simp only [cond_true, cond_false]
    rw [g103Eq 40 (by omega) hb]
    have := g101l2Eq w l (fun y => k (IntKind.wrap .i64 (c + y))) b v 0 (39 - b) hb (by omega)
    rw [show 39 - b + b + 1 = 40 by omega, Nat.zero_add] at this
    exact this
theorem g101Eq94 {l : List Int} (hl : l.length = 6) (ul : U32 l) {α : Type} (k : Int → Option α) : g101 40 l k = g93 40 l k := by
  obtain ⟨a, b, c, d, e, f, rfl⟩ := six hl
  have hb : ∀ x ∈ [a, b, c, d, e, f], 0 ≤ x ∧ x ≤ 4294967295 := fun x hx => bounds_u32 (ul x hx)
  rw [g101U, g93U, sizeStep _ _ f _ _ _ (hb f (by simp)), sizeStep _ _ e _ _ _ (hb e (by simp)), sizeStep _ _ d _ _ _ (hb d (by simp)), sizeStep _ _ c _ _ _ (hb c (by simp)), sizeStep _ _ b _ _ _ (hb b (by simp)), sizeStep _ _ a _ _ _ (hb a (by simp))]
def lenI (x : Int) : Int := ((x.toNat.log2 + 1 : Nat) : Int)
theorem stepLen {α : Type} (c x r : Int) (k : Int → Option α) (hx : 0 ≤ x ∧ x ≤ 4294967295) :
    cond (x != 0) (g103 40 x (fun y => k (IntKind.wrap .i64 (c + y)))) (k r) = k (if x = 0 then r else IntKind.wrap .i64 (c + lenI x)) := by
  by_cases h0 : x = 0
  · subst h0; rfl
  · obtain ⟨v, rfl⟩ : ∃ v : Nat, x = v := ⟨x.toNat, by omega⟩
    have hv : v ≠ 0 := by omega
    rw [show ((v : Int) != 0) = true by simpa using h0, if_neg h0]
    simp only [cond_true]
    rw [g103Eq 40 (by omega) (isLen_iff.2 ⟨Nat.lt_log2_self, .inr (by simpa using Nat.log2_self_le hv)⟩)]
    rfl
theorem g93Ex {l : List Int} (hl : l.length = 6) (ul : U32 l) : ∃ S : Int, ∀ {α : Type} (k : Int → Option α), g93 40 l k = k S := by
  obtain ⟨a, b, c, d, e, f, rfl⟩ := six hl
  have hb : ∀ x ∈ [a, b, c, d, e, f], 0 ≤ x ∧ x ≤ 4294967295 := fun x hx => bounds_u32 (ul x hx)
  refine ⟨(if f = 0 then (if e = 0 then (if d = 0 then (if c = 0 then (if b = 0 then (if a = 0 then 0 else IntKind.wrap .i64 (0 + lenI a)) else IntKind.wrap .i64 (32 + lenI b)) else IntKind.wrap .i64 (64 + lenI c)) else IntKind.wrap .i64 (96 + lenI d)) else IntKind.wrap .i64 (128 + lenI e)) else IntKind.wrap .i64 (160 + lenI f)), fun k => ?_⟩
  rw [g93U, stepLen _ a _ _ (hb a (by simp)), stepLen _ b _ _ (hb b (by simp)), stepLen _ c _ _ (hb c (by simp)), stepLen _ d _ _ (hb d (by simp)), stepLen _ e _ _ (hb e (by simp)), stepLen _ f _ _ (hb f (by simp))]
end Go.Proofs.Ytobejeiffgehfaa.Sx
