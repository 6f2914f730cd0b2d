/- Plain laws: ReadWide, the whole. Our own work. -/
import Derived.Test.YtcccndkeaichcaaPureT
namespace Go.Proofs.Ytcccndkeaichcaa.Sx
open Go
set_option linter.unusedVariables false
set_option linter.unusedSimpArgs false
set_option maxRecDepth 100000
def loop61 {α : Type} (m : Nat) (D : ByteArray) (ng : Bool) (k : Bool → List Int → Int → Option α) : Option α :=
  g61l0 D ng false [0, 0, 0, 0, 0, 0] (fun l => k false l 5) (g61l2 (g66 m) (g97 m) (g81 m) D ng false [0, 0, 0, 0, 0, 0] (fun x l => k false l x) (fun b l => g71 m ng l (fun b => k b l 0)) m 0 false [0, 0, 0, 0, 0, 0]) m 0
def tail61 {α : Type} (m : Nat) (D : ByteArray) (ng : Bool) (k : Bool → List Int → Int → Option α) : Option α :=
  cond (bytesEq D (⟨#[]⟩ : ByteArray)) (k false [0, 0, 0, 0, 0, 0] 5) (if 0 ≤ (0 : Int) ∧ (0 : Int) < D.size then
    cond (byteAt D 0 == 48) (cond (decide (((D.size : Nat) : Int) > 1)) (k false [0, 0, 0, 0, 0, 0] 5) (cond ng (k false [0, 0, 0, 0, 0, 0] 5) (loop61 m D ng k))) (loop61 m D ng k) else none)
theorem g61U {α : Type} (m : Nat) (z : ByteArray) (k : Bool → List Int → Int → Option α) : g61 m z k =
    cond (!bytesEq z (⟨#[]⟩ : ByteArray)) (if 0 ≤ (0 : Int) ∧ (0 : Int) < z.size then cond (byteAt z 0 == 45)
      (if 0 ≤ (1 : Int) ∧ (1 : Int) ≤ ((z.size : Nat) : Int) ∧ ((z.size : Nat) : Int) ≤ ((z.size : Nat) : Int) then tail61 m (ByteArray.extract z 1 z.size) (byteAt z 0 == 45) k else none) (tail61 m z (byteAt z 0 == 45) k) else none)
      (cond (bytesEq z (⟨#[]⟩ : ByteArray)) (k false [0, 0, 0, 0, 0, 0] 5) (if 0 ≤ (0 : Int) ∧ (0 : Int) < z.size then
        cond (byteAt z 0 == 48) (cond (decide (((z.size : Nat) : Int) > 1)) (k false [0, 0, 0, 0, 0, 0] 5) (loop61 m z false k)) (loop61 m z false k) else none)) := by kernel_rfl
theorem g104U {α : Type} (m : Nat) (z : ByteArray) (k : ByteArray → Option α) : g104 m z (⟨#[45]⟩ : ByteArray) k = cond (decide (((z.size : Nat) : Int) ≥ ((1 : Nat) : Int)))
    (if 0 ≤ (0 : Int) ∧ (0 : Int) ≤ ((1 : Nat) : Int) ∧ ((1 : Nat) : Int) ≤ ((z.size : Nat) : Int) then cond (bytesEq (ByteArray.extract z 0 1) (⟨#[45]⟩ : ByteArray))
      (if 0 ≤ ((1 : Nat) : Int) ∧ ((1 : Nat) : Int) ≤ ((z.size : Nat) : Int) ∧ ((z.size : Nat) : Int) ≤ ((z.size : Nat) : Int) then k (ByteArray.extract z 1 z.size) else none) (k z) else none)
    (cond false (if 0 ≤ ((1 : Nat) : Int) ∧ ((1 : Nat) : Int) ≤ ((z.size : Nat) : Int) ∧ ((z.size : Nat) : Int) ≤ ((z.size : Nat) : Int) then k (ByteArray.extract z 1 z.size) else none) (k z)) := by kernel_rfl
theorem g103U {α : Type} (m : Nat) (z : ByteArray) (k : Bool → Option α) : g103 m z k = g104 m z (⟨#[45]⟩ : ByteArray) (fun s => cond (bytesEq s (⟨#[]⟩ : ByteArray)) (k false) (if 0 ≤ (0 : Int) ∧ (0 : Int) < s.size then
    cond (byteAt s 0 == 48) (cond (!bytesEq z (⟨#[48]⟩ : ByteArray)) (k false) (g103l0 s (k false) (k true) m 0)) (g103l0 s (k false) (k true) m 0) else none)) := by kernel_rfl
theorem g62U {α : Type} (m : Nat) (z : ByteArray) (k : Bool → List Int → Int → Option α) : g62 m z k = g103 m z (fun b => cond (!b) (k false [0, 0, 0, 0, 0, 0] 5) (g104 m z (⟨#[45]⟩ : ByteArray) (fun D =>
    g62l0 (g26 m) (g78 m) (g79 m) z D false [0, 0, 0, 0, 0, 0] (fun o s l => if 0 ≤ (0 : Int) ∧ (0 : Int) < z.size then g74 m (byteAt z 0 == 45) l o (fun b l x => k b l x) else none) m 0 false false [0, 0, 0, 0, 0, 0]))) := by kernel_rfl
theorem g18U {α : Type} (m : Nat) (z : ByteArray) (k : Bool → Option α) : g18 m z k = cond (decide (((z.size : Nat) : Int) > 1048576)) (k true) (g61 m z (fun b1 l1 x1 => g62 m z (fun b2 l2 x2 => g27 m b2 l2 b1 l1 (fun b => cond (!b) (k false) (cond (x2 != x1) (k false) (k true)))))) := by kernel_rfl
theorem loop61E {α : Type} (n : Nat) (hn : 1100000 ≤ n) (D : ByteArray) (hD : D.size ≤ 1048576) (ng : Bool) (k : Bool → List Int → Int → Option α) : loop61 (n + 7) D ng k =
    cond (okL D 0 D.size) (match valL D 0 D.size 0 with
      | some v => k (ng && !(decide (v = 0))) (limbs 6 v) 0
      | none => k false [0, 0, 0, 0, 0, 0] 3) (k false [0, 0, 0, 0, 0, 0] 5) := by
  unfold loop61
  have h1 := g61ok (α := α) D (by omega) ng false [0, 0, 0, 0, 0, 0] (fun l => k false l 5) (g61l2 (g66 (n + 7)) (g97 (n + 7)) (g81 (n + 7)) D ng false [0, 0, 0, 0, 0, 0] (fun x l => k false l x) (fun b l => g71 (n + 7) ng l (fun b => k b l 0)) (n + 7) 0 false [0, 0, 0, 0, 0, 0]) D.size 0 (n + 7) (by omega) (by omega)
  refine h1.trans ?_
  cases hok : okL D 0 D.size
  · rfl
  · simp only [cond_true]
    have h2 := g61val (α := α) n D (by omega) ng false [0, 0, 0, 0, 0, 0] (fun x l => k false l x) (fun b l => g71 (n + 7) ng l (fun b => k b l 0)) (fun j hj => okL_spec hok j (by omega) (by omega)) D.size 0 (n + 7) 0 (by omega) (by omega) (by decide)
    refine h2.trans ?_
    cases hv : valL D 0 D.size 0 with
    | none => rfl
    | some v => exact g71L (n + 7) ng (valL_lt (by decide) hv) _
theorem g62E {α : Type} (n : Nat) (hn : 1100000 ≤ n) (z D : ByteArray) (hz : 0 < z.size) (hD : D.size ≤ 1048576) (hok : okL D 0 D.size = true) (k : Bool → List Int → Int → Option α) :
    g62l0 (g26 (n + 7)) (g78 (n + 7)) (g79 (n + 7)) z D false [0, 0, 0, 0, 0, 0] (fun o s l => if 0 ≤ (0 : Int) ∧ (0 : Int) < z.size then g74 (n + 7) (byteAt z 0 == 45) l o (fun b l x => k b l x) else none) (n + 7) 0 false false [0, 0, 0, 0, 0, 0] =
    match valL D 0 D.size 0 with
      | some v => k (byteAt z 0 == 45) (limbs 6 v) 0
      | none => k false [0, 0, 0, 0, 0, 0] 3 := by
  have hif : ∀ (x y : Option α), (if 0 ≤ (0 : Int) ∧ (0 : Int) < z.size then x else y) = x := fun x y => if_pos (by omega)
  simp only [hif]
  have h2 := g62val (α := α) n z D (by omega) false [0, 0, 0, 0, 0, 0] (fun o s l => g74 (n + 7) (byteAt z 0 == 45) l o (fun b l x => k b l x)) (k false [0, 0, 0, 0, 0, 0] 3) (fun s l => rfl) (fun j hj => okL_spec hok j (by omega) (by omega)) D.size 0 (n + 7) 0 (by omega) (by omega) (by decide)
  refine h2.trans ?_
  cases valL D 0 D.size 0 <;> rfl
theorem ext_size (z : ByteArray) : (ByteArray.extract z 1 z.size).size = z.size - 1 := by simp
/-- one result for both -/
theorem read_both (n : Nat) (hn : 1100000 ≤ n) (z : ByteArray) (hz : z.size ≤ 1048576) : ∃ s v x, (∀ {α : Type} (k : Bool → List Int → Int → Option α), g61 (n + 7) z k = k s (limbs 6 v) x) ∧ (∀ {α : Type} (k : Bool → List Int → Int → Option α), g62 (n + 7) z k = k s (limbs 6 v) x) := by
  cases hl : z.data.toList with
  | nil =>
    have h0 : z.size = 0 := by rw [size_list, hl]; rfl
    have hn0 : bytesEq z (⟨#[]⟩ : ByteArray) = true := by rw [bytesEq_nil, h0]; rfl
    refine ⟨false, 0, 5, fun k => ?_, fun k => ?_⟩
    · rw [g61U, hn0]; rfl
    · rw [g62U, g103U, g104U, decide_eq_false (show ¬ ((z.size : Nat) : Int) ≥ ((1 : Nat) : Int) by omega), cond_false, cond_false, hn0]; rfl
  | cons x r =>
    have hs : 0 < z.size := by rw [size_list, hl]; simp
    have hnz : bytesEq z (⟨#[]⟩ : ByteArray) = false := by rw [bytesEq_nil]; exact decide_eq_false (by omega)
    have h45 : (byteAt z 0 == 45) = decide (x = 45) := byte_eq hl 45
    have h48 : (byteAt z 0 == 48) = decide (x = 48) := byte_eq hl 48
    have hpre := prefix_text hl
    have hz0 := zero_text hl
    have hif : ∀ {β : Type} (x y : β), (if 0 ≤ (0 : Int) ∧ (0 : Int) < z.size then x else y) = x := fun x y => if_pos (by omega)
    have h104 : ∀ {α : Type} (k : ByteArray → Option α), g104 (n + 7) z (⟨#[45]⟩ : ByteArray) k = cond (decide (x = 45)) (k (ByteArray.extract z 1 z.size)) (k z) := fun k => by
      rw [g104U, decide_eq_true (show ((z.size : Nat) : Int) ≥ ((1 : Nat) : Int) by omega), cond_true, if_pos (by omega), hpre, if_pos (by omega)]
    by_cases hx : x = 45
    · -- with a sign
      have hx45 : decide (x = 45) = true := decide_eq_true hx
      have hz0' : bytesEq z (⟨#[48]⟩ : ByteArray) = false := by rw [hz0, hx]; rfl
      have hDs := ext_size z
      generalize hDD : ByteArray.extract z 1 z.size = D at *
      have hspec : ∀ {α : Type} (k : Bool → List Int → Int → Option α), g61 (n + 7) z k = tail61 (n + 7) D true k := fun k => by
        rw [g61U, hnz, Bool.not_false, cond_true, hif, h45, hx45, cond_true, if_pos (by omega), hDD]
      have himpl : ∀ {α : Type} (k : Bool → List Int → Int → Option α), g62 (n + 7) z k = cond (bytesEq D (⟨#[]⟩ : ByteArray)) (k false [0, 0, 0, 0, 0, 0] 5) (if 0 ≤ (0 : Int) ∧ (0 : Int) < D.size then
          cond (byteAt D 0 == 48) (k false [0, 0, 0, 0, 0, 0] 5) (cond (okL D 0 D.size) (match valL D 0 D.size 0 with
            | some v => k true (limbs 6 v) 0
            | none => k false [0, 0, 0, 0, 0, 0] 3) (k false [0, 0, 0, 0, 0, 0] 5)) else none) := fun k => by
        rw [g62U, g103U, h104, hx45, cond_true, hz0', Bool.not_false, cond_true]
        by_cases hD0 : D.size = 0
        · have : bytesEq D (⟨#[]⟩ : ByteArray) = true := by rw [bytesEq_nil]; exact decide_eq_true hD0
          rw [this]; rfl
        · have : bytesEq D (⟨#[]⟩ : ByteArray) = false := by rw [bytesEq_nil]; exact decide_eq_false hD0
          rw [this, cond_false, cond_false, if_pos (by omega), if_pos (by omega)]
          cases (byteAt D 0 == 48)
          · simp only [cond_false]
            have h3 := g103ok D (by omega) (cond (!false) (k false [0, 0, 0, 0, 0, 0] 5) (g104 (n + 7) z (⟨#[45]⟩ : ByteArray) (fun D => g62l0 (g26 (n + 7)) (g78 (n + 7)) (g79 (n + 7)) z D false [0, 0, 0, 0, 0, 0] (fun o s l => if 0 ≤ (0 : Int) ∧ (0 : Int) < z.size then g74 (n + 7) (byteAt z 0 == 45) l o (fun b l x => k b l x) else none) (n + 7) 0 false false [0, 0, 0, 0, 0, 0])))
              (cond (!true) (k false [0, 0, 0, 0, 0, 0] 5) (g104 (n + 7) z (⟨#[45]⟩ : ByteArray) (fun D => g62l0 (g26 (n + 7)) (g78 (n + 7)) (g79 (n + 7)) z D false [0, 0, 0, 0, 0, 0] (fun o s l => if 0 ≤ (0 : Int) ∧ (0 : Int) < z.size then g74 (n + 7) (byteAt z 0 == 45) l o (fun b l x => k b l x) else none) (n + 7) 0 false false [0, 0, 0, 0, 0, 0]))) D.size 0 (n + 7) (by omega) (by omega)
            refine h3.trans ?_
            cases hok : okL D 0 D.size
            · rfl
            · rw [cond_true, Bool.not_true, cond_false, h104, hx45, cond_true, g62E n hn z D hs (by omega) hok k, h45, hx45]; rfl
          · rfl
      cases hD0 : bytesEq D (⟨#[]⟩ : ByteArray)
      · have hDn : ¬ D.size = 0 := by rw [bytesEq_nil] at hD0; exact of_decide_eq_false hD0
        cases h8 : (byteAt D 0 == 48)
        · cases hok : okL D 0 D.size
          · exact ⟨false, 0, 5, fun k => by rw [hspec]; unfold tail61; rw [hD0, cond_false, if_pos (by omega), h8, cond_false, loop61E n hn D (by omega), hok]; rfl, fun k => by rw [himpl, hD0, cond_false, if_pos (by omega), h8, hok]; rfl⟩
          · cases hv : valL D 0 D.size 0 with
            | none => exact ⟨false, 0, 3, fun k => by rw [hspec]; unfold tail61; rw [hD0, cond_false, if_pos (by omega), h8, cond_false, loop61E n hn D (by omega), hok, hv]; rfl, fun k => by rw [himpl, hD0, cond_false, if_pos (by omega), h8, hok, hv]; rfl⟩
            | some v =>
              have hpos : 0 < v := by
                obtain ⟨d, hd⟩ : ∃ d, D.size = d + 1 := ⟨D.size - 1, by omega⟩
                have hdig := (okL_spec hok 0 (by omega) (by omega)).1
                have hne : byteAt D 0 ≠ 48 := by simpa using h8
                have hd1 : 0 < dig D 0 := by unfold dig; omega
                rw [hd] at hv
                simp only [valL] at hv
                by_cases c1 : 0 * 10 < W192
                · rw [decide_eq_true c1, cond_true] at hv
                  by_cases c2 : 0 * 10 + dig D 0 < W192
                  · rw [decide_eq_true c2, cond_true] at hv
                    exact valL_pos (by omega) hv
                  · rw [decide_eq_false c2] at hv; cases hv
                · exact absurd (by decide) c1
              exact ⟨true, v, 0, fun k => by rw [hspec]; unfold tail61; rw [hD0, cond_false, if_pos (by omega), h8, cond_false, loop61E n hn D (by omega), hok, hv]; show k (true && !(decide (v = 0))) (limbs 6 v) 0 = _; rw [decide_eq_false (show ¬ v = 0 by omega)]; rfl, fun k => by rw [himpl, hD0, cond_false, if_pos (by omega), h8, hok, hv]; rfl⟩
        · exact ⟨false, 0, 5, fun k => by
            rw [hspec]; unfold tail61; rw [hD0, cond_false, if_pos (by omega), h8, cond_true, cond_true]
            cases decide (((D.size : Nat) : Int) > 1) <;> rfl, fun k => by rw [himpl, hD0, cond_false, if_pos (by omega), h8]; rfl⟩
      · exact ⟨false, 0, 5, fun k => by rw [hspec]; unfold tail61; rw [hD0]; rfl, fun k => by rw [himpl, hD0]; rfl⟩
    · -- without
      have hx45 : decide (x = 45) = false := decide_eq_false hx
      have hspec : ∀ {α : Type} (k : Bool → List Int → Int → Option α), g61 (n + 7) z k = cond (decide (x = 48)) (cond (decide (((z.size : Nat) : Int) > 1)) (k false [0, 0, 0, 0, 0, 0] 5) (loop61 (n + 7) z false k)) (loop61 (n + 7) z false k) := fun k => by
        rw [g61U, hnz, Bool.not_false, cond_true, hif, h45, hx45, cond_false]
        unfold tail61
        rw [hnz, cond_false, hif, h48]; rfl
      have hbad : (!bytesEq z (⟨#[48]⟩ : ByteArray)) = !(decide (x = 48) && decide (z.size = 1)) := by rw [hz0]
      have himpl : ∀ {α : Type} (k : Bool → List Int → Int → Option α), g62 (n + 7) z k = cond (decide (x = 48) && !(decide (x = 48) && decide (z.size = 1))) (k false [0, 0, 0, 0, 0, 0] 5) (cond (okL z 0 z.size) (match valL z 0 z.size 0 with
            | some v => k false (limbs 6 v) 0
            | none => k false [0, 0, 0, 0, 0, 0] 3) (k false [0, 0, 0, 0, 0, 0] 5)) := fun k => by
        rw [g62U, g103U, h104, hx45, cond_false, hnz, cond_false, hif, h48, hbad]
        have h3 := g103ok z (by omega) (cond (!false) (k false [0, 0, 0, 0, 0, 0] 5) (g104 (n + 7) z (⟨#[45]⟩ : ByteArray) (fun D => g62l0 (g26 (n + 7)) (g78 (n + 7)) (g79 (n + 7)) z D false [0, 0, 0, 0, 0, 0] (fun o s l => if 0 ≤ (0 : Int) ∧ (0 : Int) < z.size then g74 (n + 7) (byteAt z 0 == 45) l o (fun b l x => k b l x) else none) (n + 7) 0 false false [0, 0, 0, 0, 0, 0])))
          (cond (!true) (k false [0, 0, 0, 0, 0, 0] 5) (g104 (n + 7) z (⟨#[45]⟩ : ByteArray) (fun D => g62l0 (g26 (n + 7)) (g78 (n + 7)) (g79 (n + 7)) z D false [0, 0, 0, 0, 0, 0] (fun o s l => if 0 ≤ (0 : Int) ∧ (0 : Int) < z.size then g74 (n + 7) (byteAt z 0 == 45) l o (fun b l x => k b l x) else none) (n + 7) 0 false false [0, 0, 0, 0, 0, 0]))) z.size 0 (n + 7) (by omega) (by omega)
        have h4 : (cond (okL z 0 z.size) (cond (!true) (k false [0, 0, 0, 0, 0, 0] 5) (g104 (n + 7) z (⟨#[45]⟩ : ByteArray) (fun D => g62l0 (g26 (n + 7)) (g78 (n + 7)) (g79 (n + 7)) z D false [0, 0, 0, 0, 0, 0] (fun o s l => if 0 ≤ (0 : Int) ∧ (0 : Int) < z.size then g74 (n + 7) (byteAt z 0 == 45) l o (fun b l x => k b l x) else none) (n + 7) 0 false false [0, 0, 0, 0, 0, 0])))
            (cond (!false) (k false [0, 0, 0, 0, 0, 0] 5) (g104 (n + 7) z (⟨#[45]⟩ : ByteArray) (fun D => g62l0 (g26 (n + 7)) (g78 (n + 7)) (g79 (n + 7)) z D false [0, 0, 0, 0, 0, 0] (fun o s l => if 0 ≤ (0 : Int) ∧ (0 : Int) < z.size then g74 (n + 7) (byteAt z 0 == 45) l o (fun b l x => k b l x) else none) (n + 7) 0 false false [0, 0, 0, 0, 0, 0])))) =
            cond (okL z 0 z.size) (match valL z 0 z.size 0 with
            | some v => k false (limbs 6 v) 0
            | none => k false [0, 0, 0, 0, 0, 0] 3) (k false [0, 0, 0, 0, 0, 0] 5) := by
          cases hok : okL z 0 z.size
          · rfl
          · rw [cond_true, Bool.not_true, cond_false, h104, hx45, cond_false, g62E n hn z z hs hz hok k, h45, hx45]; rfl
        have h5 := h3.trans h4
        cases decide (x = 48)
        · exact h5
        · cases decide (z.size = 1)
          · rfl
          · exact h5
      have hcond : decide (((z.size : Nat) : Int) > 1) = !(decide (z.size = 1)) := by
        by_cases h1 : z.size = 1
        · rw [decide_eq_true h1, h1]; rfl
        · rw [decide_eq_false h1, decide_eq_true (show ((z.size : Nat) : Int) > 1 by omega)]; rfl
      have hl61 : ∀ {α : Type} (k : Bool → List Int → Int → Option α), loop61 (n + 7) z false k = cond (okL z 0 z.size) (match valL z 0 z.size 0 with
            | some v => k false (limbs 6 v) 0
            | none => k false [0, 0, 0, 0, 0, 0] 3) (k false [0, 0, 0, 0, 0, 0] 5) := fun k => by
        rw [loop61E n hn z hz]
        cases valL z 0 z.size 0 <;> rfl
      cases hc : (decide (x = 48) && !(decide (x = 48) && decide (z.size = 1)))
      · have hspec' : ∀ {α : Type} (k : Bool → List Int → Int → Option α), g61 (n + 7) z k = loop61 (n + 7) z false k := fun k => by
          rw [hspec, hcond]
          cases h8 : decide (x = 48)
          · rfl
          · rw [h8] at hc
            cases h1 : decide (z.size = 1)
            · rw [h1] at hc; cases hc
            · rfl
        cases hok : okL z 0 z.size
        · exact ⟨false, 0, 5, fun k => by rw [hspec', hl61, hok]; rfl, fun k => by rw [himpl, hc, hok]; rfl⟩
        · cases hv : valL z 0 z.size 0 with
          | none => exact ⟨false, 0, 3, fun k => by rw [hspec', hl61, hok, hv]; rfl, fun k => by rw [himpl, hc, hok, hv]; rfl⟩
          | some v => exact ⟨false, v, 0, fun k => by rw [hspec', hl61, hok, hv]; rfl, fun k => by rw [himpl, hc, hok, hv]; rfl⟩
      · refine ⟨false, 0, 5, fun k => ?_, fun k => by rw [himpl, hc]; rfl⟩
        rw [hspec, hcond]
        cases h8 : decide (x = 48)
        · rw [h8] at hc; cases hc
        · cases h1 : decide (z.size = 1)
          · rfl
          · rw [h8, h1] at hc; cases hc
theorem law18 (n : Nat) (hn : 1100000 ≤ n) (z : ByteArray) {α : Type} (k : Bool → Option α) : g18 (n + 7) z k = k true := by
  rw [g18U]
  by_cases hz : z.size ≤ 1048576
  · obtain ⟨s, v, x, h1, h2⟩ := read_both n hn z hz
    rw [decide_eq_false (show ¬ ((z.size : Nat) : Int) > 1048576 by omega), cond_false, h1, h2, g27L n, Bool.not_true, cond_false, bne_self_eq_false, cond_false]
  · rw [decide_eq_true (show ((z.size : Nat) : Int) > 1048576 by omega), cond_true]
theorem law18' (ls : List Lf) (hw : WT g18tp ls) : g18K (g18 1100007) ls (fun v _ _ => saysTrue v) = some () := law18 1100000 (Nat.le_refl _) _ _
end Go.Proofs.Ytcccndkeaichcaa.Sx
