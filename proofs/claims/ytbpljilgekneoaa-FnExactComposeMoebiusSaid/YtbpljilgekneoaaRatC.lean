/- Plain laws of machines: images, products of machines. Our own work. -/
import Derived.Test.YtbpljilgekneoaaRatB
namespace Go.Proofs.Ytbpljilgekneoaa.Sx
open Go
set_option linter.unusedVariables false
set_option linter.unusedSimpArgs false
set_option maxRecDepth 100000
theorem mkR_cases (p q : Int) : rOk (mkR p q).1 (mkR p q).2.1 = true ∨ mkR p q = (0, 0, 3) := by
  unfold mkR
  cases h : rOk (Int.tdiv p (cond (decide (q < 0)) (-(gG p q)) (gG p q))) (Int.tdiv q (cond (decide (q < 0)) (-(gG p q)) (gG p q)))
  · exact .inr rfl
  · exact .inl h
theorem rOk00 : rOk 0 0 = false := by decide
theorem ordI_swap (a b : Int) : decide (ordI a b > 0) = decide (ordI b a < 0) := by
  unfold ordI
  by_cases h1 : a < b
  · simp [h1, show ¬ b < a by omega]
  · by_cases h2 : b < a
    · simp [h1, h2]
    · simp [h1, h2]
theorem g24E {α : Type} (m : Nat) (hm : FU ≤ m) (a b c d : Int) (k : Int → Int → Option α) : g24 m a b c d k =
    k (cond (rOk a b && rOk c d) (ordI (IntKind.wrap .i64 (a * d)) (IntKind.wrap .i64 (c * b))) 0) (cond (rOk a b && rOk c d) 0 1) := by
  simp only [g24, g24b, g22E m hm, g62E]
  cases rOk a b <;> cases rOk c d <;> rfl
theorem ord00 : IntKind.wrap .i64 0 = 0 := by decide
theorem turn_dec {lp lq hp hq : Int} (hl : rOk lp lq = true ∨ (lp = 0 ∧ lq = 0)) (hh : rOk hp hq = true ∨ (hp = 0 ∧ hq = 0)) :
    decide (cond (rOk lp lq && rOk hp hq) (ordI (IntKind.wrap .i64 (lp * hq)) (IntKind.wrap .i64 (hp * lq))) 0 > 0) = decide (ordI (IntKind.wrap .i64 (hp * lq)) (IntKind.wrap .i64 (lp * hq)) < 0) := by
  have hz : decide (ordI 0 0 < 0) = false := by unfold ordI; rfl
  rcases hl with hl | ⟨rfl, rfl⟩
  · rcases hh with hh | ⟨rfl, rfl⟩
    · rw [hl, hh]
      exact ordI_swap _ _
    · rw [hl, rOk00, Int.mul_zero, Int.zero_mul, ord00, hz]; rfl
  · rw [rOk00, Int.mul_zero, Int.zero_mul, ord00, hz]; rfl
theorem mk00 {l : Int × Int × Int} (h : rOk l.1 l.2.1 = true ∨ l = (0, 0, 3)) : rOk l.1 l.2.1 = true ∨ (l.1 = 0 ∧ l.2.1 = 0) := by
  rcases h with h | rfl
  · exact .inl h
  · exact .inr ⟨rfl, rfl⟩
theorem g71E {α : Type} (m : Nat) (hm : FU ≤ m) {a b c d : Int} (h : mOk a b c d = true) (k : Int → Int → Int → Int → Option α) : g71 m a b c d k =
    cond (decide (ordI (IntKind.wrap .i64 ((mkR (b + a) (d + c)).1 * (mkR (b - a) (d - c)).2.1)) (IntKind.wrap .i64 ((mkR (b - a) (d - c)).1 * (mkR (b + a) (d + c)).2.1)) < 0))
      (k (mkR (b + a) (d + c)).1 (mkR (b + a) (d + c)).2.1 (mkR (b - a) (d - c)).1 (mkR (b - a) (d - c)).2.1) (k (mkR (b - a) (d - c)).1 (mkR (b - a) (d - c)).2.1 (mkR (b + a) (d + c)).1 (mkR (b + a) (d + c)).2.1) := by
  obtain ⟨i1, i2, i3, i4, i5⟩ := mOk_iff h
  have s1 : Sm (b - a) := by unfold Sm Big; omega
  have s2 : Sm (d - c) := by unfold Sm Big; omega
  have s3 : Sm (b + a) := by unfold Sm Big; omega
  have s4 : Sm (d + c) := by unfold Sm Big; omega
  have z2 : d - c ≠ 0 := by omega
  have z4 : d + c ≠ 0 := by omega
  unfold g71 g71b
  rw [wrap_sm s1, wrap_sm s2, wrap_sm s3, wrap_sm s4]
  show g64 m (b - a) (d - c) _ = _
  rw [g64E m hm s1 s2 z2]
  show g64 m (b + a) (d + c) _ = _
  rw [g64E m hm s3 s4 z4]
  show g61 m _ _ _ _ _ = _
  rw [g61E]
theorem g34E {α : Type} (m : Nat) (hm : FU ≤ m) {a b c d : Int} (h : mOk a b c d = true) (k : Int → Int → Int → Int → Int → Option α) : g34 m a b c d k =
    cond (decide (ordI (IntKind.wrap .i64 ((mkR (b + a) (d + c)).1 * (mkR (b - a) (d - c)).2.1)) (IntKind.wrap .i64 ((mkR (b - a) (d - c)).1 * (mkR (b + a) (d + c)).2.1)) < 0))
      (k (mkR (b + a) (d + c)).1 (mkR (b + a) (d + c)).2.1 (mkR (b - a) (d - c)).1 (mkR (b - a) (d - c)).2.1 0) (k (mkR (b - a) (d - c)).1 (mkR (b - a) (d - c)).2.1 (mkR (b + a) (d + c)).1 (mkR (b + a) (d + c)).2.1 0) := by
  obtain ⟨i1, i2, i3, i4, i5⟩ := mOk_iff h
  have s1 : Sm (b - a) := by unfold Sm Big; omega
  have s2 : Sm (d - c) := by unfold Sm Big; omega
  have s3 : Sm (b + a) := by unfold Sm Big; omega
  have s4 : Sm (d + c) := by unfold Sm Big; omega
  have z2 : d - c ≠ 0 := by omega
  have z4 : d + c ≠ 0 := by omega
  have hm6 : 6 ≤ m := Nat.le_trans fu6 hm
  have e2 : mkA (b - a) (d - c) = mkR (b - a) (d - c) := by rw [mkA_mkR s1 s2, show (d - c == 0) = false by simpa using z2]; rfl
  have e4 : mkA (b + a) (d + c) = mkR (b + a) (d + c) := by rw [mkA_mkR s3 s4, show (d + c == 0) = false by simpa using z4]; rfl
  unfold g34 g34b
  rw [Int.add_comm a b, Int.add_comm c d, wrap_sm s1, wrap_sm s2, wrap_sm s3, wrap_sm s4]
  show g19 m a b c d _ = _
  rw [g19E m hm6, h]
  show g26 m (b - a) (d - c) _ = _
  rw [g26E m hm, e2]
  show g26 m (b + a) (d + c) _ = _
  rw [g26E m hm, e4]
  show g24 m _ _ _ _ _ = _
  rw [g24E m hm]
  rw [turn_dec (mk00 (mkR_cases (b - a) (d - c))) (mk00 (mkR_cases (b + a) (d + c)))]
theorem law9 (m : Nat) (hF : FU ≤ m) (a b c d : Int) {α : Type} (k : Bool → Option α) : g9 m a b c d k = k true := by
  have hm6 : 6 ≤ m := Nat.le_trans fu6 hF
  simp only [g9, g9b, g18, g18b, g33, g33b, g57E]
  cases h1 : mOk a b c d
  · have e : ∀ k : Int → Int → Int → Int → Int → Option α, g34 m a b c d k = k 0 0 0 0 1 := by
      intro k
      unfold g34 g34b
      show g19 m a b c d _ = _
      rw [g19E m hm6, h1]; rfl
    simp only [e, Bool.not_false, cond_true, g27E, Bool.not_true, cond_false, bne_self_eq_false]
  · simp only [Bool.not_true, cond_false, g71E m hF h1, g34E m hF h1]
    cases decide (ordI (IntKind.wrap .i64 ((mkR (b + a) (d + c)).1 * (mkR (b - a) (d - c)).2.1)) (IntKind.wrap .i64 ((mkR (b - a) (d - c)).1 * (mkR (b + a) (d + c)).2.1)) < 0) <;>
      simp only [cond_true, cond_false, g27E, Bool.not_true, bne_self_eq_false]
theorem law9' (ls : List Lf) (hw : WT g9tp ls) : g9K (g9 2000000000000000000) ls (fun v _ _ => saysTrue v) = some () := law9 FU (Nat.le_refl _) _ _ _ _ _
end Go.Proofs.Ytbpljilgekneoaa.Sx
