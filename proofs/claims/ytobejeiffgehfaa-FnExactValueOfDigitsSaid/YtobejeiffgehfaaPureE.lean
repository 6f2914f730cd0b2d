import Derived.Test.YtobejeiffgehfaaPureD
namespace Go.Proofs.Ytobejeiffgehfaa.Sx
open Go
set_option linter.unusedVariables false
set_option linter.unusedSimpArgs false
set_option maxRecDepth 100000
def U32 (l : List Int) : Prop := ∀ x ∈ l, (Lit.int .u32 x).wf = true
theorem difLEq : ∀ (l m : List Int) (c : Int), U32 l → U32 m → (c = 0 ∨ c = 1) → difLi c l m = difL c l m
  | a :: l, b :: m, c, hl, hm, hc => by
    obtain ⟨h1, h2, h3⟩ := difStep hc (bounds_u32 (hl a (by simp))) (bounds_u32 (hm b (by simp)))
    simp only [difLi, difL, h1, h2, difLEq l m _ (fun x hx => hl x (by simp [hx])) (fun x hx => hm x (by simp [hx])) h3]
  | [], _, _, _, _, _ => by simp [difLi, difL]
  | _ :: _, [], _, _, _, _ => by simp [difLi, difL]
theorem difL_length : ∀ (l m : List Int) (c : Int), l.length = m.length → (difL c l m).length = l.length
  | [], [], c, _ => rfl
  | a :: l, b :: m, c, h => by simp [difL, difL_length l m _ (by simpa using h)]
  | [], _ :: _, c, h => by simp at h
  | _ :: _, [], c, h => by simp at h
theorem g89At {l m : List Int} (hl : l.length = 6) (hm : m.length = 6) {α : Type} (k : List Int → Bool → Option α) : g89 7 l m k = k (sumL sumS 0 l m).1 ((sumL sumS 0 l m).2 == 0) := g89Eq 0 hl hm k
theorem g69At {l m : List Int} (hl : l.length = 6) (hm : m.length = 6) {α : Type} (k : List Int → Bool → Option α) : g69 7 l m k = k (sumL sumS 0 l m).1 (!((sumL sumS 0 l m).2 == 0)) := g69Eq 0 hl hm k
theorem g91At {l m : List Int} (hl : l.length = 6) (hm : m.length = 6) {α : Type} (k : List Int → Option α) : g91 7 l m k = k (difL 0 l m) := g91Eq 0 hl hm k
theorem g85At {l m : List Int} (hl : l.length = 6) (hm : m.length = 6) (ul : U32 l) (um : U32 m) {α : Type} (k : List Int → Option α) : g85 7 l m k = k (difL 0 l m) := by
  rw [← difLEq l m 0 ul um (.inl rfl)]
  exact g85Eqi 0 hl hm k
theorem g88Eq7 (q : Bool) (l : List Int) {α : Type} (k : Bool → Option α) : g88 7 q l k = k (cond q (!(eqLI l [0, 0, 0, 0, 0, 0])) false) := by
  simp only [g88, g88b, g102, g102b]; cases q <;> rfl
theorem g84Eq7 (q : Bool) (l : List Int) {α : Type} (k : Bool → Option α) : g84 7 q l k = k (cond q (!(eqLI l [0, 0, 0, 0, 0, 0])) false) := by
  simp only [g84, g84b]; cases q <;> rfl
/-- the sum: sign, size, code -/
def addW (q : Bool) (l : List Int) (r : Bool) (m : List Int) : Bool × List Int × Int :=
  cond (q == r) (cond ((sumL sumS 0 l m).2 == 0) (cond q (!(eqLI (sumL sumS 0 l m).1 [0, 0, 0, 0, 0, 0])) false, (sumL sumS 0 l m).1, 0) (false, [0, 0, 0, 0, 0, 0], 3))
    (cond (decide (cmp6 l m < 0)) (cond r (!(eqLI (difL 0 m l) [0, 0, 0, 0, 0, 0])) false, difL 0 m l, 0) (cond q (!(eqLI (difL 0 l m) [0, 0, 0, 0, 0, 0])) false, difL 0 l m, 0))
theorem addW_length {q r : Bool} {l m : List Int} (hl : l.length = 6) (hm : m.length = 6) : (addW q l r m).2.1.length = 6 := by
  unfold addW
  cases (q == r) <;> simp only [cond_true, cond_false]
  · cases decide (cmp6 l m < 0) <;> simp only [cond_true, cond_false]
    · rw [difL_length _ _ _ (by omega)]; exact hl
    · rw [difL_length _ _ _ (by omega)]; exact hm
  · cases ((sumL sumS 0 l m).2 == 0) <;> simp only [cond_true, cond_false]
    · rfl
    · rw [sumL_length _ _ _ _ (by omega)]; exact hl
theorem g60At (q r : Bool) {l m : List Int} (hl : l.length = 6) (hm : m.length = 6) {α : Type} (k : Bool → List Int → Int → Option α) : g60 7 q l r m k = k (addW q l r m).1 (addW q l r m).2.1 (addW q l r m).2.2 := by
  simp only [g60, g60b, g89At hl hm, g90At hl hm, g91At hl hm, g91At hm hl, g88Eq7]
  unfold addW
  cases (q == r) <;> simp only [cond_true, cond_false]
  · by_cases h : cmp6 l m < 0
    · simp [h, show ¬ cmp6 l m ≥ 0 by omega]
    · simp [h, show cmp6 l m ≥ 0 by omega]
  · cases ((sumL sumS 0 l m).2 == 0) <;> rfl
theorem g53At (q r : Bool) {l m : List Int} (hl : l.length = 6) (hm : m.length = 6) (ul : U32 l) (um : U32 m) {α : Type} (k : Bool → List Int → Int → Option α) :
    g53 7 q l r m false (fun b l o => g56 7 b l o k) = k (addW q l r m).1 (addW q l r m).2.1 (addW q l r m).2.2 := by
  simp only [g53, g53b, g69At hl hm, g70At hl hm, g85At hl hm ul um, g85At hm hl um ul, g84Eq7, g56, g56b]
  unfold addW
  cases (q == r) <;> simp only [cond_true, cond_false]
  · by_cases h : cmp6 l m < 0
    · simp [h]
    · simp [h]
  · cases ((sumL sumS 0 l m).2 == 0) <;> rfl
end Go.Proofs.Ytobejeiffgehfaa.Sx
