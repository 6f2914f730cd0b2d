/- Plain laws: RootWide. Our own work. -/
import Derived.Test.YtcccndkeaichcaaPureR
namespace Go.Proofs.Ytcccndkeaichcaa.Sx
open Go
set_option linter.unusedVariables false
set_option linter.unusedSimpArgs false
set_option maxRecDepth 100000
theorem g81L {α : Type} (n : Nat) {a b : Nat} (ha : a < W192) (hb : b < W192) (hs : a + b < W192) (k : Bool → List Int → Int → Option α) :
    g81 (n + 7) false (limbs 6 a) false (limbs 6 b) k = k false (limbs 6 (a + b)) 0 := by
  simp only [g81, g81b, g112L n ha hb, beq_self_eq_true, cond_true, eq_true hs, decide_true, Bool.not_true, cond_false, g71L (n + 7) false hs, Bool.false_and]
theorem g82L {α : Type} (n : Nat) {a b : Nat} (ha : a < W192) (hb : b < W192) (k : Int → Option α) : g82 (n + 7) false (limbs 6 a) false (limbs 6 b) k = k (cmpN a b) := by
  have h : g82 (n + 7) false (limbs 6 a) false (limbs 6 b) k = g115 (n + 7) (limbs 6 a) (limbs 6 b) (fun x => k x) := by kernel_rfl
  rw [h, g115L n ha hb]
def rootStep (a i R : Nat) : Nat := cond (decide ((R + 2 ^ i) * (R + 2 ^ i) ≤ a)) (R + 2 ^ i) R
theorem g105U {α : Type} (m : Nat) (la z : List Int) (k : Bool → List Int → Option α) (f : Nat) (i : Int) (s : Bool) (l : List Int) :
    g105l0 (g66 m) (g99 m) (g81 m) (g97 m) (g82 m) false la false z k (f + 1) i s l = cond (decide (i ≥ 0)) (g66 m 1 (fun b1 l1 => g99 m b1 l1 i (fun b2 l2 x2 => g81 m s l b2 l2 (fun b3 l3 x3 =>
      cond (x2 != 0) (g105l0 (g66 m) (g99 m) (g81 m) (g97 m) (g82 m) false la false z k f (IntKind.wrap .i64 (i - 1)) s l) (cond (x3 != 0) (g105l0 (g66 m) (g99 m) (g81 m) (g97 m) (g82 m) false la false z k f (IntKind.wrap .i64 (i - 1)) s l)
        (g97 m b3 l3 b3 l3 (fun b4 l4 x4 => cond (x4 == 0) (g82 m b4 l4 false la (fun x => cond (decide (x ≤ 0)) (g105l0 (g66 m) (g99 m) (g81 m) (g97 m) (g82 m) false la false z k f (IntKind.wrap .i64 (i - 1)) b3 l3)
          (g105l0 (g66 m) (g99 m) (g81 m) (g97 m) (g82 m) false la false z k f (IntKind.wrap .i64 (i - 1)) s l))) (g105l0 (g66 m) (g99 m) (g81 m) (g97 m) (g82 m) false la false z k f (IntKind.wrap .i64 (i - 1)) s l)))))))) (k s l) := by kernel_rfl
theorem g88U {α : Type} (m : Nat) (la z : List Int) (k : List Int → Option α) (f : Nat) (i : Int) (l : List Int) :
    g88l0 (g109 m) (g117 m) (g108 m) (g114 m) (g111 m) la z k (f + 1) i l = cond (decide (i ≥ 0)) (g109 m (fun l1 => g117 m l1 i (fun l2 => g108 m l l2 (fun l3 b3 => g114 m l3 l3 (fun l4 b4 =>
      cond (!b4) (g111 m l4 la (fun x => cond (decide (x ≤ 0)) (g88l0 (g109 m) (g117 m) (g108 m) (g114 m) (g111 m) la z k f (IntKind.wrap .i64 (i - 1)) l3) (g88l0 (g109 m) (g117 m) (g108 m) (g114 m) (g111 m) la z k f (IntKind.wrap .i64 (i - 1)) l)))
        (g88l0 (g109 m) (g117 m) (g108 m) (g114 m) (g111 m) la z k f (IntKind.wrap .i64 (i - 1)) l)))))) (k l) := by kernel_rfl
theorem sq_lt {x a : Nat} (h : x * x ≤ a) (ha : a < W192) : x * x < W192 := Nat.lt_of_le_of_lt h ha
theorem g105s {α : Type} (n f i R : Nat) {a : Nat} (hi : i < 192) (ha : a < W192) (hR : R + 2 ^ i < W192) (z : List Int) (k : Bool → List Int → Option α) :
    g105l0 (g66 (n + 40)) (g99 (n + 40)) (g81 (n + 40)) (g97 (n + 40)) (g82 (n + 40)) false (limbs 6 a) false z k (f + 1) (i : Int) false (limbs 6 R) =
      g105l0 (g66 (n + 40)) (g99 (n + 40)) (g81 (n + 40)) (g97 (n + 40)) (g82 (n + 40)) false (limbs 6 a) false z k f ((i : Int) - 1) false (limbs 6 (rootStep a i R)) := by
  have hp : 2 ^ i < W192 := Nat.lt_of_le_of_lt (Nat.le_add_left _ _) hR
  have hRl : R < W192 := Nat.lt_of_le_of_lt (Nat.le_add_right _ _) hR
  have h1 : 1 * 2 ^ i < W192 := by rw [Nat.one_mul]; exact hp
  rw [g105U, decide_eq_true (show (i : Int) ≥ 0 by omega), cond_true, g66one, g99L n i false hi (show 1 < W192 by decide), decide_eq_true h1, cond_true, Bool.false_and, Nat.one_mul, g81L (n + 33) hRl hp hR, bne_self_eq_false, cond_false, cond_false,
    g97L (n + 33) hR hR, wrapI64 (x := (i : Int) - 1) (by omega) (by omega)]
  unfold rootStep
  by_cases hs : (R + 2 ^ i) * (R + 2 ^ i) < W192
  · rw [decide_eq_true hs, cond_true, beq_self_eq_true, beq_self_eq_true, Bool.not_true, Bool.false_and, cond_true, g82L (n + 33) hs ha, cmpN_le]
    cases decide ((R + 2 ^ i) * (R + 2 ^ i) ≤ a) <;> rfl
  · rw [decide_eq_false hs, cond_false, decide_eq_false (fun h => hs (sq_lt h ha))]; rfl
theorem g88s {α : Type} (n f i R : Nat) {a : Nat} (hi : i < 192) (ha : a < W192) (hR : R + 2 ^ i < W192) (z : List Int) (k : List Int → Option α) :
    g88l0 (g109 (n + 40)) (g117 (n + 40)) (g108 (n + 40)) (g114 (n + 40)) (g111 (n + 40)) (limbs 6 a) z k (f + 1) (i : Int) (limbs 6 R) =
      g88l0 (g109 (n + 40)) (g117 (n + 40)) (g108 (n + 40)) (g114 (n + 40)) (g111 (n + 40)) (limbs 6 a) z k f ((i : Int) - 1) (limbs 6 (rootStep a i R)) := by
  have hp : 2 ^ i < W192 := Nat.lt_of_le_of_lt (Nat.le_add_left _ _) hR
  have hRl : R < W192 := Nat.lt_of_le_of_lt (Nat.le_add_right _ _) hR
  rw [g88U, decide_eq_true (show (i : Int) ≥ 0 by omega), cond_true, g109L, g117L (n + 33) i hi (show 1 < W192 by decide), Nat.one_mul, g108L (n + 33) hRl hp, g114L (n + 33) hR hR, wrapI64 (x := (i : Int) - 1) (by omega) (by omega)]
  unfold rootStep
  by_cases hs : (R + 2 ^ i) * (R + 2 ^ i) < W192
  · rw [decide_eq_true hs, cond_true, Bool.not_false, cond_true, g111L (n + 33) hs ha, cmpN_le]
    cases decide ((R + 2 ^ i) * (R + 2 ^ i) ≤ a) <;> rfl
  · rw [decide_eq_false hs, cond_false, decide_eq_false (fun h => hs (sq_lt h ha))]; rfl
def rootN (a : Nat) : Nat → Nat → Nat
  | 0, R => rootStep a 0 R
  | i + 1, R => rootN a i (rootStep a (i + 1) R)
theorem rootStep_le (a i R : Nat) : rootStep a i R ≤ R + 2 ^ i := by
  unfold rootStep
  cases decide ((R + 2 ^ i) * (R + 2 ^ i) ≤ a)
  · exact Nat.le_add_right _ _
  · exact Nat.le_refl _
theorem pow98 : (2 : Nat) ^ 98 < W192 := by decide
theorem root_in {i R : Nat} (h : R + 2 ^ (i + 1) ≤ 2 ^ 98) : R + 2 ^ i < W192 := by
  have := pow98
  rw [Nat.pow_succ] at h
  omega
theorem root_next {a i R : Nat} (h : R + 2 ^ (i + 2) ≤ 2 ^ 98) : rootStep a (i + 1) R + 2 ^ (i + 1) ≤ 2 ^ 98 := by
  have h1 := rootStep_le a (i + 1) R
  have h2 : 2 ^ (i + 2) = 2 ^ (i + 1) * 2 := Nat.pow_succ ..
  omega
theorem g105loop {α : Type} (n : Nat) {a : Nat} (ha : a < W192) (z : List Int) (k : Bool → List Int → Option α) : ∀ (i f R : Nat), i < 192 → i + 1 < f → R + 2 ^ (i + 1) ≤ 2 ^ 98 →
    g105l0 (g66 (n + 40)) (g99 (n + 40)) (g81 (n + 40)) (g97 (n + 40)) (g82 (n + 40)) false (limbs 6 a) false z k f (i : Int) false (limbs 6 R) = k false (limbs 6 (rootN a i R))
  | 0, f, R, hi, hf, hR => by
    obtain ⟨f, rfl⟩ : ∃ j, f = j + 2 := ⟨f - 2, by omega⟩
    rw [g105s n (f + 1) 0 R hi ha (root_in hR), g105U, decide_eq_false (show ¬ ((0 : Nat) : Int) - 1 ≥ 0 by omega)]; rfl
  | i + 1, f, R, hi, hf, hR => by
    obtain ⟨f, rfl⟩ : ∃ j, f = j + 1 := ⟨f - 1, by omega⟩
    rw [g105s n f (i + 1) R hi ha (root_in hR), show ((i + 1 : Nat) : Int) - 1 = (i : Int) by omega]
    exact g105loop n ha z k i f _ (by omega) (by omega) (root_next hR)
theorem g88loop {α : Type} (n : Nat) {a : Nat} (ha : a < W192) (z : List Int) (k : List Int → Option α) : ∀ (i f R : Nat), i < 192 → i + 1 < f → R + 2 ^ (i + 1) ≤ 2 ^ 98 →
    g88l0 (g109 (n + 40)) (g117 (n + 40)) (g108 (n + 40)) (g114 (n + 40)) (g111 (n + 40)) (limbs 6 a) z k f (i : Int) (limbs 6 R) = k (limbs 6 (rootN a i R))
  | 0, f, R, hi, hf, hR => by
    obtain ⟨f, rfl⟩ : ∃ j, f = j + 2 := ⟨f - 2, by omega⟩
    rw [g88s n (f + 1) 0 R hi ha (root_in hR), g88U, decide_eq_false (show ¬ ((0 : Nat) : Int) - 1 ≥ 0 by omega)]; rfl
  | i + 1, f, R, hi, hf, hR => by
    obtain ⟨f, rfl⟩ : ∃ j, f = j + 1 := ⟨f - 1, by omega⟩
    rw [g88s n f (i + 1) R hi ha (root_in hR), show ((i + 1 : Nat) : Int) - 1 = (i : Int) by omega]
    exact g88loop n ha z k i f _ (by omega) (by omega) (root_next hR)
theorem half_start {b : Nat} (hb : b ≤ 192) : IntKind.wrap .i64 (Int.tdiv (IntKind.wrap .i64 ((b : Int) + 1)) 2) = (((b + 1) / 2 : Nat) : Int) := by
  rw [wrapI64 (x := (b : Int) + 1) (by omega) (by omega), show (b : Int) + 1 = ((b + 1 : Nat) : Int) by omega, show (2 : Int) = ((2 : Nat) : Int) from rfl, ← Int.ofNat_tdiv, wrapI64 (by omega) (by omega)]
theorem start_ok {b : Nat} (hb : b ≤ 192) : 0 + 2 ^ ((b + 1) / 2 + 1) ≤ 2 ^ 98 := by
  rw [Nat.zero_add]; exact Nat.pow_le_pow_right (by decide) (by omega)
theorem g105M {α : Type} (m : Nat) (l : List Int) (k : Bool → List Int → Option α) : g105 m false l k = g93 m l (fun x => g105l0 (g66 m) (g99 m) (g81 m) (g97 m) (g82 m) false l false [0, 0, 0, 0, 0, 0] (fun b l => k b l) m (IntKind.wrap .i64 (Int.tdiv (IntKind.wrap .i64 (x + 1)) 2)) false [0, 0, 0, 0, 0, 0]) := by kernel_rfl
theorem g88M {α : Type} (m : Nat) (l : List Int) (k : List Int → Option α) : g88 m l k = g94 m l (fun x => g88l0 (g109 m) (g117 m) (g108 m) (g114 m) (g111 m) l [0, 0, 0, 0, 0, 0] (fun l => k l) m (IntKind.wrap .i64 (Int.tdiv (IntKind.wrap .i64 (x + 1)) 2)) [0, 0, 0, 0, 0, 0]) := by kernel_rfl
theorem root_both (n : Nat) (hn : 100 ≤ n) {a : Nat} (ha : a < W192) : ∃ R, (∀ {α : Type} (k : Bool → List Int → Option α), g105 (n + 40) false (limbs 6 a) k = k false (limbs 6 R)) ∧ (∀ {α : Type} (k : List Int → Option α), g88 (n + 40) (limbs 6 a) k = k (limbs 6 R)) ∧ R < W192 := by
  obtain ⟨b, hb⟩ := len_of a
  have hb192 := len_le192 ha hb
  refine ⟨rootN a ((b + 1) / 2) 0, fun k => ?_, fun k => ?_, ?_⟩
  · rw [g105M, g93L n ha hb, half_start hb192]
    exact g105loop n ha _ _ ((b + 1) / 2) (n + 40) 0 (by omega) (by omega) (start_ok hb192)
  · rw [g88M, g94L (n + 33) ha hb, half_start hb192]
    exact g88loop n ha _ _ ((b + 1) / 2) (n + 40) 0 (by omega) (by omega) (start_ok hb192)
  · have hle : ∀ i R, R + 2 ^ (i + 1) ≤ 2 ^ 98 → rootN a i R < W192 := by
      intro i
      induction i with
      | zero => intro R h; exact Nat.lt_of_le_of_lt (rootStep_le a 0 R) (root_in h)
      | succ i ih => intro R h; exact ih _ (root_next h)
    exact hle _ _ (start_ok hb192)
theorem g63U {α : Type} (m : Nat) (q : Bool) (l : List Int) (k : Bool → List Int → Int → Option α) : g63 m q l k = g64 m q l (fun b => cond (!b) (k false [0, 0, 0, 0, 0, 0] 1) (cond q (k false [0, 0, 0, 0, 0, 0] 2) (g105 m q l (fun b l => k b l 0)))) := by kernel_rfl
theorem g44U {α : Type} (m : Nat) (q : Bool) (l : List Int) (k : Bool → List Int → Int → Option α) : g44 m q l k = g24 m q l (fun b => cond (!b) (k false [0, 0, 0, 0, 0, 0] 1) (cond q (k false [0, 0, 0, 0, 0, 0] 2) (g88 m l (fun l' => g67 m false l' (fun b => k b l' 0))))) := by kernel_rfl
theorem g19U {α : Type} (m : Nat) (q : Bool) (l : List Int) (k : Bool → Option α) : g19 m q l k =
    g23 m q l (fun l' => g63 m q l' (fun b1 l1 x1 => g23 m q l (fun l'' => g44 m q l'' (fun b2 l2 x2 => g27 m b2 l2 b1 l1 (fun b => cond (!b) (k false) (cond (x2 != x1) (k false) (k true))))))) := by kernel_rfl
theorem root_res (n : Nat) (hn : 100 ≤ n) (q : Bool) {a : Nat} (ha : a < W192) : ∃ s v x, (∀ {α : Type} (k : Bool → List Int → Int → Option α), g63 (n + 40) q (limbs 6 a) k = k s (limbs 6 v) x) ∧
    (∀ {α : Type} (k : Bool → List Int → Int → Option α), g44 (n + 40) q (limbs 6 a) k = k s (limbs 6 v) x) := by
  cases hv : (!(q && decide (a = 0)))
  · exact ⟨false, 0, 1, fun k => by rw [g63U, g64L (n + 40) q ha, hv]; rfl, fun k => by rw [g44U, g24L (n + 40) q ha, hv]; rfl⟩
  · cases q with
    | true => exact ⟨false, 0, 2, fun k => by rw [g63U, g64L (n + 40) true ha, hv]; rfl, fun k => by rw [g44U, g24L (n + 40) true ha, hv]; rfl⟩
    | false =>
      obtain ⟨R, h1, h2, h3⟩ := root_both n hn ha
      refine ⟨false, R, 0, fun k => ?_, fun k => ?_⟩
      · rw [g63U, g64L (n + 40) false ha, hv, Bool.not_true, cond_false, cond_false, h1]
      · rw [g44U, g24L (n + 40) false ha, hv, Bool.not_true, cond_false, cond_false, h2, g67L (n + 40) false h3, Bool.false_and]
theorem law19 (n : Nat) (hn : 100 ≤ n) (q : Bool) {a : Nat} (ha : a < W192) {α : Type} (k : Bool → Option α) : g19 (n + 40) q (limbs 6 a) k = k true := by
  obtain ⟨s, v, x, h1, h2⟩ := root_res n hn q ha
  rw [g19U, g23L (n + 33), h1, g23L (n + 33), h2, g27L (n + 33), Bool.not_true, cond_false, bne_self_eq_false, cond_false]
theorem law19' (ls : List Lf) (hw : WT g19tp ls) : g19K (g19 140) ls (fun v _ _ => saysTrue v) = some () := by
  obtain ⟨a, ha, e1⟩ := limbs_ex hw.1.2.1.1 hw.1.2.1.2
  have := law19 100 (Nat.le_refl _) (lf ls 0).bool ha (fun b => saysTrue (.vl (.sv (.bool b))))
  rw [← e1] at this
  exact this
end Go.Proofs.Ytcccndkeaichcaa.Sx
