/- Plain laws: bit lengths of numbers; powers; int64 values. Our own work. -/
import Derived.Test.YtcccndkeaichcaaPureJ
namespace Go.Proofs.Ytcccndkeaichcaa.Sx
open Go
set_option linter.unusedVariables false
set_option linter.unusedSimpArgs false
set_option maxRecDepth 100000
/-! ### Bits -/
theorem len_of (a : Nat) : ∃ b, isLen a b = true := by
  by_cases h0 : a = 0
  · exact ⟨0, by rw [h0]; rfl⟩
  · exact ⟨a.log2 + 1, by rw [isLen_iff]; exact ⟨Nat.lt_log2_self, .inr (by simpa using Nat.log2_self_le h0)⟩⟩
theorem g94Un {α : Type} (n : Nat) (a b c d e f : Int) (k : Int → Option α) : g94 (n + 7) [a, b, c, d, e, f] k = (cond (f != 0) (g119 (n + 7) f (fun x => k (IntKind.wrap .i64 (160 + x)))) (cond (e != 0) (g119 (n + 7) e (fun x => k (IntKind.wrap .i64 (128 + x)))) (cond (d != 0) (g119 (n + 7) d (fun x => k (IntKind.wrap .i64 (96 + x)))) (cond (c != 0) (g119 (n + 7) c (fun x => k (IntKind.wrap .i64 (64 + x)))) (cond (b != 0) (g119 (n + 7) b (fun x => k (IntKind.wrap .i64 (32 + x)))) (cond (a != 0) (g119 (n + 7) a (fun x => k (IntKind.wrap .i64 (0 + x)))) (k 0))))))) := by kernel_rfl
theorem g93Un {α : Type} (n : Nat) (a b c d e f : Int) (k : Int → Option α) : g93 (n + 40) [a, b, c, d, e, f] k = (cond (f == 0) (cond (e == 0) (cond (d == 0) (cond (c == 0) (cond (b == 0) (cond (a == 0) (k 0) (g93l2 0 [a, b, c, d, e, f] (fun x => k (IntKind.wrap .i64 (0 + x))) (n + 40) 0 a)) (g93l2 1 [a, b, c, d, e, f] (fun x => k (IntKind.wrap .i64 (32 + x))) (n + 40) 0 b)) (g93l2 2 [a, b, c, d, e, f] (fun x => k (IntKind.wrap .i64 (64 + x))) (n + 40) 0 c)) (g93l2 3 [a, b, c, d, e, f] (fun x => k (IntKind.wrap .i64 (96 + x))) (n + 40) 0 d)) (g93l2 4 [a, b, c, d, e, f] (fun x => k (IntKind.wrap .i64 (128 + x))) (n + 40) 0 e)) (g93l2 5 [a, b, c, d, e, f] (fun x => k (IntKind.wrap .i64 (160 + x))) (n + 40) 0 f)) := by kernel_rfl
/-- one limb of the search for the highest one -/
theorem limb94 {α : Type} (m s x b : Nat) (hs : s ≤ 160) (hx : x < 4294967296) (r : Option α) (k : Int → Option α) {A : Nat} (hA : A / 2 ^ s = x) (hb : isLen A b = true) (hr : x = 0 → r = k (b : Int)) :
    cond ((x : Int) != 0) (g119 m (x : Int) (fun y => k (IntKind.wrap .i64 ((s : Int) + y)))) r = k (b : Int) := by
  by_cases h0 : x = 0
  · subst h0
    exact hr rfl
  · rw [show ((x : Int) != 0) = true by simpa using h0]
    obtain ⟨c, hc, hc2⟩ := len_ex x hx
    simp only [cond_true]
    rw [g119Eq m hx hc, wrapI64 (by omega) (by omega)]
    have : b = c + s := isLen_unique hb (isLen_shift (by rw [hA]; exact hc) (isLen_pos hc (by omega)))
    congr 1; omega
theorem limb93 {α : Type} (n w s x b : Nat) (l : List Int) (hs : s ≤ 160) (hx : x < 4294967296) (r : Option α) (k : Int → Option α) {A : Nat} (hA : A / 2 ^ s = x) (hb : isLen A b = true) (hr : x = 0 → r = k (b : Int)) :
    cond ((x : Int) == 0) r (g93l2 (w : Int) l (fun y => k (IntKind.wrap .i64 ((s : Int) + y))) (n + 40) 0 (x : Int)) = k (b : Int) := by
  by_cases h0 : x = 0
  · subst h0
    exact hr rfl
  · rw [show ((x : Int) == 0) = false by simpa using h0]
    obtain ⟨c, hc, hc2⟩ := len_ex x hx
    simp only [cond_false]
    have := g93l2Eq (w : Int) l (fun y => k (IntKind.wrap .i64 ((s : Int) + y))) c x 0 (n + 39 - c) hc (by omega)
    rw [show n + 39 - c + c + 1 = n + 40 by omega, Nat.zero_add] at this
    rw [show (0 : Int) = ((0 : Nat) : Int) from rfl, this, wrapI64 (by omega) (by omega)]
    have : b = c + s := isLen_unique hb (isLen_shift (by rw [hA]; exact hc) (isLen_pos hc (by omega)))
    congr 1; omega
theorem g94L {α : Type} (n : Nat) {a b : Nat} (ha : a < W192) (hb : isLen a b = true) (k : Int → Option α) : g94 (n + 7) (limbs 6 a) k = k (b : Int) := by
  obtain ⟨x0, x1, x2, x3, x4, x5, p0, p1, p2, p3, p4, p5, e, e'⟩ := six_split a ha
  rw [e, g94Un]
  refine limb94 (n + 7) 160 x5 b (by decide) p5 _ k (A := a) (by rw [e']; omega) hb fun h5 => ?_
  refine limb94 (n + 7) 128 x4 b (by decide) p4 _ k (A := a) (by rw [e']; omega) hb fun h4 => ?_
  refine limb94 (n + 7) 96 x3 b (by decide) p3 _ k (A := a) (by rw [e']; omega) hb fun h3 => ?_
  refine limb94 (n + 7) 64 x2 b (by decide) p2 _ k (A := a) (by rw [e']; omega) hb fun h2 => ?_
  refine limb94 (n + 7) 32 x1 b (by decide) p1 _ k (A := a) (by rw [e']; omega) hb fun h1 => ?_
  refine limb94 (n + 7) 0 x0 b (by decide) p0 _ k (A := a) (by rw [e']; omega) hb fun h0 => ?_
  have : a = 0 := by omega
  have hb0 : b = 0 := isLen_unique hb (by rw [this]; rfl)
  rw [hb0]; rfl
theorem g93L {α : Type} (n : Nat) {a b : Nat} (ha : a < W192) (hb : isLen a b = true) (k : Int → Option α) : g93 (n + 40) (limbs 6 a) k = k (b : Int) := by
  obtain ⟨x0, x1, x2, x3, x4, x5, p0, p1, p2, p3, p4, p5, e, e'⟩ := six_split a ha
  rw [e, g93Un]
  refine limb93 n 5 160 x5 b _ (by decide) p5 _ k (A := a) (by rw [e']; omega) hb fun h5 => ?_
  refine limb93 n 4 128 x4 b _ (by decide) p4 _ k (A := a) (by rw [e']; omega) hb fun h4 => ?_
  refine limb93 n 3 96 x3 b _ (by decide) p3 _ k (A := a) (by rw [e']; omega) hb fun h3 => ?_
  refine limb93 n 2 64 x2 b _ (by decide) p2 _ k (A := a) (by rw [e']; omega) hb fun h2 => ?_
  refine limb93 n 1 32 x1 b _ (by decide) p1 _ k (A := a) (by rw [e']; omega) hb fun h1 => ?_
  refine limb93 n 0 0 x0 b _ (by decide) p0 _ k (A := a) (by rw [e']; omega) hb fun h0 => ?_
  have : a = 0 := by omega
  have hb0 : b = 0 := isLen_unique hb (by rw [this]; rfl)
  rw [hb0]; rfl
/-! ### Powers -/
def sgn (s q : Bool) (x : Nat) : Bool := (!(s == q)) && !(decide (x = 0))
def powR (a : Nat) (q : Bool) : Nat → Bool → Nat → Option (Bool × Nat)
  | 0, s, x => some (s, x)
  | j + 1, s, x => cond (decide (x * a < W192)) (powR a q j (sgn s q (x * a)) (x * a)) none
theorem powR_lt {a : Nat} {q : Bool} : ∀ {j : Nat} {s : Bool} {x : Nat} {r : Bool × Nat}, x < W192 → powR a q j s x = some r → r.2 < W192
  | 0, s, x, r, hx, h => by simp only [powR, Option.some.injEq] at h; subst h; exact hx
  | j + 1, s, x, r, hx, h => by
    simp only [powR] at h
    by_cases hl : x * a < W192
    · rw [decide_eq_true hl] at h; exact powR_lt hl h
    · rw [decide_eq_false hl] at h; cases h
theorem g56loop {α : Type} (n : Nat) {a : Nat} (ha : a < W192) (p : Int) (hp : p ≤ 1000) (q c : Bool) (z : List Int) (k1 : Int → List Int → Option α) (k2 : Bool → List Int → Option α) :
    ∀ (j f : Nat) (s : Bool) (x : Nat), x < W192 → j < f → (j : Int) ≤ p →
      g56l0 (g97 (n + 7)) p q (limbs 6 a) c z k1 k2 f (p - j) s (limbs 6 x) = match powR a q j s x with
        | some r => k2 r.1 (limbs 6 r.2)
        | none => k1 3 [0, 0, 0, 0, 0, 0]
  | 0, f, s, x, hx, hf, hj => by
    obtain ⟨f, rfl⟩ : ∃ i, f = i + 1 := ⟨f - 1, by omega⟩
    simp only [g56l0, g56l0b, powR]
    rw [decide_eq_false (by omega)]; rfl
  | j + 1, f, s, x, hx, hf, hj => by
    obtain ⟨f, rfl⟩ : ∃ i, f = i + 1 := ⟨f - 1, by omega⟩
    simp only [g56l0, g56l0b, powR]
    rw [decide_eq_true (by omega)]
    simp only [cond_true, g97L n hx ha]
    by_cases hl : x * a < W192
    · rw [decide_eq_true hl]
      simp only [cond_true, bne_self_eq_false, cond_false]
      rw [wrapI64 (by omega) (by omega), show p - ((j + 1 : Nat) : Int) + 1 = p - (j : Int) by omega]
      exact g56loop n ha p hp q c z k1 k2 j f _ _ hl (by omega) (by omega)
    · rw [decide_eq_false hl]; rfl
theorem g42over {α : Type} (n : Nat) {a : Nat} (ha : a < W192) (q c : Bool) (z : List Int) (k : Bool → Bool → List Int → Option α) :
    ∀ (j f : Nat), j < f → j ≤ 1000 → g42l0 (g78 (n + 7)) q (limbs 6 a) c z k f (j : Int) true false (limbs 6 0) = k true false (limbs 6 0)
  | 0, f, hf, hj => by
    obtain ⟨f, rfl⟩ : ∃ i, f = i + 1 := ⟨f - 1, by omega⟩
    simp only [g42l0, g42l0b]; rfl
  | j + 1, f, hf, hj => by
    obtain ⟨f, rfl⟩ : ∃ i, f = i + 1 := ⟨f - 1, by omega⟩
    simp only [g42l0, g42l0b]
    rw [decide_eq_true (by omega)]
    simp only [cond_true, g78L n (show (0 : Nat) < W192 by decide) ha, Nat.zero_mul]
    rw [decide_eq_true (show (0 : Nat) < W192 by decide), wrapI64 (by omega) (by omega), show ((j + 1 : Nat) : Int) - 1 = (j : Int) by omega]
    simp only [cond_true, decide_true, Bool.not_true, Bool.and_false]
    exact g42over n ha q c z k j f (by omega) (by omega)
theorem g42loop {α : Type} (n : Nat) {a : Nat} (ha : a < W192) (q c : Bool) (z : List Int) (k : Bool → Bool → List Int → Option α) :
    ∀ (j f : Nat) (s : Bool) (x : Nat), x < W192 → j < f → j ≤ 1000 →
      g42l0 (g78 (n + 7)) q (limbs 6 a) c z k f (j : Int) false s (limbs 6 x) = match powR a q j s x with
        | some r => k false r.1 (limbs 6 r.2)
        | none => k true false (limbs 6 0)
  | 0, f, s, x, hx, hf, hj => by
    obtain ⟨f, rfl⟩ : ∃ i, f = i + 1 := ⟨f - 1, by omega⟩
    simp only [g42l0, g42l0b, powR]; rfl
  | j + 1, f, s, x, hx, hf, hj => by
    obtain ⟨f, rfl⟩ : ∃ i, f = i + 1 := ⟨f - 1, by omega⟩
    simp only [g42l0, g42l0b, powR]
    rw [decide_eq_true (by omega)]
    simp only [cond_true, g78L n hx ha]
    rw [wrapI64 (x := ((j + 1 : Nat) : Int) - 1) (by omega) (by omega), show ((j + 1 : Nat) : Int) - 1 = (j : Int) by omega]
    by_cases hl : x * a < W192
    · rw [decide_eq_true hl]
      simp only [cond_true]
      exact g42loop n ha q c z k j f _ _ hl (by omega) (by omega)
    · rw [decide_eq_false hl]
      exact g42over n ha q c z k j f (by omega) (by omega)
theorem g66one {α : Type} (m : Nat) (k : Bool → List Int → Option α) : g66 m 1 k = k false (limbs 6 1) := by kernel_rfl
theorem g26one {α : Type} (m : Nat) (k : Bool → List Int → Option α) : g26 m 1 k = k false (limbs 6 1) := by kernel_rfl
def inR (x lo hi : Int) : Bool := decide (x ≥ lo) && decide (x ≤ hi)
theorem inR_iff {x lo hi : Int} : inR x lo hi = true ↔ lo ≤ x ∧ x ≤ hi := by simp [inR]
theorem g120E {α : Type} (m : Nat) (x lo hi : Int) (k : Bool → Option α) : g120 m x lo hi k = k (inR x lo hi) := by
  unfold g120 g120b inR
  cases decide (x ≥ lo) <;> rfl
theorem g84E {α : Type} (m : Nat) (x lo hi : Int) (k : Bool → Option α) : g84 m x lo hi k = k (inR x lo hi) := by
  unfold g84 g84b inR
  cases decide (x ≥ lo) <;> rfl
theorem law12 (q : Bool) {a : Nat} (ha : a < W192) (p : Int) {α : Type} (k : Bool → Option α) : g12 1007 q (limbs 6 a) p k = k true := by
  simp only [g12, g12b, g23L 1000, g56, g56b, g42, g42b, g64L 1007 _ ha, g24L 1007 _ ha, g98, g98b, g120E, g84E, g66one, g26one]
  generalize (!(q && decide (a = 0))) = e
  cases e
  · simp only [cond_true, cond_false, Bool.not_true, Bool.not_false, bne_self_eq_false, g27Z 1000]
  · cases hi : inR p 0 191
    · simp only [cond_true, cond_false, Bool.not_true, Bool.not_false, bne_self_eq_false, g27Z 1000]
    · rw [inR_iff] at hi
      obtain ⟨j, rfl⟩ : ∃ j : Nat, p = j := ⟨p.toNat, by omega⟩
      simp only [cond_true, cond_false, Bool.not_true, Bool.not_false]
      have h1 : ∀ (k1 : Int → List Int → Option α) (k2 : Bool → List Int → Option α), g56l0M 1007 (j : Int) q (limbs 6 a) false [0, 0, 0, 0, 0, 0] k1 k2 0 false (limbs 6 1) = match powR a q j false 1 with
          | some r => k2 r.1 (limbs 6 r.2)
          | none => k1 3 [0, 0, 0, 0, 0, 0] := fun k1 k2 => by
        have := g56loop 1000 ha (j : Int) (by omega) q false [0, 0, 0, 0, 0, 0] k1 k2 j 1007 false 1 (by decide) (by omega) (by omega)
        rw [show (j : Int) - (j : Int) = 0 by omega] at this
        exact this
      have h2 : ∀ (k : Bool → Bool → List Int → Option α), g42l0M 1007 q (limbs 6 a) false [0, 0, 0, 0, 0, 0] k (j : Int) false false (limbs 6 1) = match powR a q j false 1 with
          | some r => k false r.1 (limbs 6 r.2)
          | none => k true false (limbs 6 0) := fun k => g42loop 1000 ha q false [0, 0, 0, 0, 0, 0] k j 1007 false 1 (by decide) (by omega) (by omega)
      simp only [h1, h2]
      cases hr : powR a q j false 1 with
      | none => simp only [g74, g74b, cond_true, cond_false, Bool.not_true, Bool.not_false, bne_self_eq_false, g27Z 1000]
      | some r => simp only [g74, g74b, cond_true, cond_false, Bool.not_true, Bool.not_false, bne_self_eq_false, g27L 1000]
theorem law12' (ls : List Lf) (hw : WT g12tp ls) : g12K (g12 1007) ls (fun v _ _ => saysTrue v) = some () := by
  obtain ⟨a, ha, e1⟩ := limbs_ex hw.1.2.1.1 hw.1.2.1.2
  have := law12 (lf ls 0).bool ha (lf ls 2).int (fun b => saysTrue (.vl (.sv (.bool b))))
  rw [← e1] at this
  exact this
end Go.Proofs.Ytcccndkeaichcaa.Sx
