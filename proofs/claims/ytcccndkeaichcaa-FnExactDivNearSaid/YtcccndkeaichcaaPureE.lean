import Derived.Test.YtcccndkeaichcaaPureD
namespace Go.Proofs.Ytcccndkeaichcaa.Sx
open Go
set_option linter.unusedVariables false
set_option linter.unusedSimpArgs false
set_option maxRecDepth 100000
def U32 (l : List Int) : Prop := ∀ x ∈ l, (Lit.int .u32 x).wf = true
theorem difLEq : ∀ (l m : List Int) (c : Int), U32 l → U32 m → (c = 0 ∨ c = 1) → difLi c l m = difL c l m
  | a :: l, b :: m, c, hl, hm, hc => by
    obtain ⟨h1, h2, h3⟩ := difStep hc (bounds_u32 (hl a (by simp))) (bounds_u32 (hm b (by simp)))
    simp only [difLi, difL, h1, h2, difLEq l m _ (fun x hx => hl x (by simp [hx])) (fun x hx => hm x (by simp [hx])) h3]
  | [], _, _, _, _, _ => by simp [difLi, difL]
  | _ :: _, [], _, _, _, _ => by simp [difLi, difL]
theorem difL_length : ∀ (l m : List Int) (c : Int), l.length = m.length → (difL c l m).length = l.length
  | [], [], c, _ => rfl
  | a :: l, b :: m, c, h => by simp [difL, difL_length l m _ (by simpa using h)]
  | [], _ :: _, c, h => by simp at h
  | _ :: _, [], c, h => by simp at h
theorem g112At {l m : List Int} (hl : l.length = 6) (hm : m.length = 6) {α : Type} (k : List Int → Bool → Option α) : g112 7 l m k = k (sumL sumS 0 l m).1 ((sumL sumS 0 l m).2 == 0) := g112Eq 0 hl hm k
theorem g108At {l m : List Int} (hl : l.length = 6) (hm : m.length = 6) {α : Type} (k : List Int → Bool → Option α) : g108 7 l m k = k (sumL sumS 0 l m).1 (!((sumL sumS 0 l m).2 == 0)) := g108Eq 0 hl hm k
theorem g113At {l m : List Int} (hl : l.length = 6) (hm : m.length = 6) {α : Type} (k : List Int → Option α) : g113 7 l m k = k (difL 0 l m) := g113Eq 0 hl hm k
theorem g110At {l m : List Int} (hl : l.length = 6) (hm : m.length = 6) (ul : U32 l) (um : U32 m) {α : Type} (k : List Int → Option α) : g110 7 l m k = k (difL 0 l m) := by
  rw [← difLEq l m 0 ul um (.inl rfl)]
  exact g110Eqi 0 hl hm k
theorem g71Eq7 (q : Bool) (l : List Int) {α : Type} (k : Bool → Option α) : g71 7 q l k = k (cond q (!(eqLI l [0, 0, 0, 0, 0, 0])) false) := by
  simp only [g71, g71b, g101, g101b]; cases q <;> rfl
theorem g67Eq7 (q : Bool) (l : List Int) {α : Type} (k : Bool → Option α) : g67 7 q l k = k (cond q (!(eqLI l [0, 0, 0, 0, 0, 0])) false) := by
  simp only [g67, g67b]; cases q <;> rfl
/-- the sum: sign, size, code -/
def addW (q : Bool) (l : List Int) (r : Bool) (m : List Int) : Bool × List Int × Int :=
  cond (q == r) (cond ((sumL sumS 0 l m).2 == 0) (cond q (!(eqLI (sumL sumS 0 l m).1 [0, 0, 0, 0, 0, 0])) false, (sumL sumS 0 l m).1, 0) (false, [0, 0, 0, 0, 0, 0], 3))
    (cond (decide (cmp6 l m < 0)) (cond r (!(eqLI (difL 0 m l) [0, 0, 0, 0, 0, 0])) false, difL 0 m l, 0) (cond q (!(eqLI (difL 0 l m) [0, 0, 0, 0, 0, 0])) false, difL 0 l m, 0))
theorem addW_length {q r : Bool} {l m : List Int} (hl : l.length = 6) (hm : m.length = 6) : (addW q l r m).2.1.length = 6 := by
  unfold addW
  cases (q == r) <;> simp only [cond_true, cond_false]
  · cases decide (cmp6 l m < 0) <;> simp only [cond_true, cond_false]
    · rw [difL_length _ _ _ (by omega)]; exact hl
    · rw [difL_length _ _ _ (by omega)]; exact hm
  · cases ((sumL sumS 0 l m).2 == 0) <;> simp only [cond_true, cond_false]
    · rfl
    · rw [sumL_length _ _ _ _ (by omega)]; exact hl
theorem g81At (q r : Bool) {l m : List Int} (hl : l.length = 6) (hm : m.length = 6) {α : Type} (k : Bool → List Int → Int → Option α) : g81 7 q l r m k = k (addW q l r m).1 (addW q l r m).2.1 (addW q l r m).2.2 := by
  simp only [g81, g81b, g112At hl hm, g115At hl hm, g113At hl hm, g113At hm hl, g71Eq7]
  unfold addW
  cases (q == r) <;> simp only [cond_true, cond_false]
  · by_cases h : cmp6 l m < 0
    · simp [h, show ¬ cmp6 l m ≥ 0 by omega]
    · simp [h, show cmp6 l m ≥ 0 by omega]
  · cases ((sumL sumS 0 l m).2 == 0) <;> rfl
theorem g79At (q r : Bool) {l m : List Int} (hl : l.length = 6) (hm : m.length = 6) (ul : U32 l) (um : U32 m) {α : Type} (k : Bool → List Int → Int → Option α) :
    g79 7 q l r m false (fun b l o => g74 7 b l o k) = k (addW q l r m).1 (addW q l r m).2.1 (addW q l r m).2.2 := by
  simp only [g79, g79b, g108At hl hm, g111At hl hm, g110At hl hm ul um, g110At hm hl um ul, g67Eq7, g74, g74b]
  unfold addW
  cases (q == r) <;> simp only [cond_true, cond_false]
  · by_cases h : cmp6 l m < 0
    · simp [h]
    · simp [h]
  · cases ((sumL sumS 0 l m).2 == 0) <;> rfl
theorem law14 (q : Bool) {l : List Int} (hl : l.length = 6) (ul : U32 l) (r : Bool) {m : List Int} (hm : m.length = 6) (um : U32 m) {α : Type} (k : Bool → Option α) : g14 7 q l r m k = k true := by
  simp only [g14, g14b, g23At q hl, g23At r hm, g37, g37b, g64, g64b, g24, g24b, g35, g35b, g81At q r hl hm, g79At q r hl hm ul um]
  have hz := addW_length (q := q) (r := r) hl hm
  generalize eqLI l [0, 0, 0, 0, 0, 0] = e
  generalize eqLI m [0, 0, 0, 0, 0, 0] = f
  generalize addW q l r m = w at *
  cases q <;> cases e <;> cases r <;> cases f <;> simp only [cond_true, cond_false, Bool.not_true, Bool.not_false, beq_self_eq_true, bne_self_eq_false, g27At _ hz, g27Zero]
theorem law14' (ls : List Lf) (hw : WT g14tp ls) : g14K (g14 7) ls (fun v _ _ => saysTrue v) = some () := law14 _ hw.1.2.1.1 hw.1.2.1.2 _ hw.2.1.2.1.1 hw.2.1.2.1.2 _
theorem law15 (q : Bool) {l : List Int} (hl : l.length = 6) (ul : U32 l) (r : Bool) {m : List Int} (hm : m.length = 6) (um : U32 m) {α : Type} (k : Bool → Option α) : g15 7 q l r m k = k true := by
  simp only [g15, g15b, g23At q hl, g23At r hm, g58, g58b, g64, g64b, g24, g24b, g36, g36b, g80, g80b, g91, g91b, g92, g92b, g71Eq7, g67Eq7]
  generalize hr : (cond (!r) (!(eqLI m [0, 0, 0, 0, 0, 0])) false) = r'
  simp only [g81At q r' hl hm, g79At q r' hl hm ul um]
  have hz := addW_length (q := q) (r := r') hl hm
  clear hr
  generalize eqLI l [0, 0, 0, 0, 0, 0] = e
  generalize eqLI m [0, 0, 0, 0, 0, 0] = f
  generalize addW q l r' m = w at *
  cases q <;> cases e <;> cases r <;> cases f <;> simp only [cond_true, cond_false, Bool.not_true, Bool.not_false, beq_self_eq_true, bne_self_eq_false, g27At _ hz, g27Zero]
theorem law15' (ls : List Lf) (hw : WT g15tp ls) : g15K (g15 7) ls (fun v _ _ => saysTrue v) = some () := law15 _ hw.1.2.1.1 hw.1.2.1.2 _ hw.2.1.2.1.1 hw.2.1.2.1.2 _
end Go.Proofs.Ytcccndkeaichcaa.Sx
