/- Plain laws: numbers of what is asked, in signed whole numbers. Our own work. -/
import Derived.Test.YtlmmgjngihlpeaaAskP
import Derived.Test.YtlmmgjngihlpeaaZedD
namespace Go.Proofs.Ytlmmgjngihlpeaa.Sx
open Go
set_option linter.unusedVariables false
set_option linter.unusedSimpArgs false
set_option maxRecDepth 100000
section
variable {α : Type} {m : Nat}
theorem nearS (hm : 300 ≤ m) {p : Nat} (h0 : 0 < p) (hp : p < 192) {x : Int} (hx : x.natAbs < W192) (k : Bool → List Int → Option α) :
  g134 m (zs x) (zl x) (p : Int) k = k (zs (nearZ x p)) (zl (nearZ x p)) := by
 obtain ⟨n, rfl⟩ : ∃ n, m = n + 40 := ⟨m - 40, by omega⟩
 have e := nearN_Z x h0
 unfold zl
 rw [g134L n p (zs x) h0 hp hx, mk_zs, mk_zl (zs x), e]; rfl
theorem mulW (hm : 300 ≤ m) {x y : Int} (hx : x.natAbs < W192) (hy : y.natAbs < W192) (k : Bool → List Int → Int → Option α) :
  g145 m (zs x) (zl x) (zs y) (zl y) k = cond (fitZ (x * y)) (k (zs (x * y)) (zl (x * y)) 0) (k false [0, 0, 0, 0, 0, 0] 3) := by
 obtain ⟨n, rfl⟩ : ∃ n, m = n + 7 := ⟨m - 7, by omega⟩
 unfold zl
 rw [g145L n hx hy, fitZ_eq (Int.natAbs_mul x y), zs_mul, Int.natAbs_mul]
theorem isLen_lenZ (z : Int) : isLen z.natAbs (lenZ z) = true := by
 unfold lenZ
 by_cases h : z = 0
 ·subst h; rfl
 ·rw [if_neg h, isLen_iff]
  exact ⟨Nat.lt_log2_self, .inr (by simpa using Nat.log2_self_le (by omega))⟩
theorem bitsI (hm : 300 ≤ m) {x : Int} (hx : x.natAbs < W192) (k : Int → Option α) : g107 m (zl x) k = k (lenZ x : Int) := by
 obtain ⟨n, rfl⟩ : ∃ n, m = n + 7 := ⟨m - 7, by omega⟩
 exact g107L n hx (isLen_lenZ x) k
theorem bitsS (hm : 300 ≤ m) {x : Int} (hx : x.natAbs < W192) (k : Int → Option α) : g116 m (zl x) k = k (lenZ x : Int) := by
 obtain ⟨n, rfl⟩ : ∃ n, m = n + 40 := ⟨m - 40, by omega⟩
 exact g116L n hx (isLen_lenZ x) k
theorem rootS (hm : 300 ≤ m) {x : Int} (hx : x.natAbs < W192) (k : Bool → List Int → Option α) : g135 m false (zl x) k = k (zs (isq x.natAbs : Int)) (zl (isq x.natAbs : Int)) := by
 obtain ⟨n, rfl⟩ : ∃ n, m = n + 40 := ⟨m - 40, by omega⟩
 obtain ⟨b, hb⟩ := len_of x.natAbs
 have hb192 := len_le192 hx hb
 unfold zl
 rw [g135M, g116L n hx hb, half_start hb192]
 have := g135loop (α := α) n hx [0, 0, 0, 0, 0, 0] (fun b l => k b l) ((b + 1) / 2) (n + 40) 0 (by omega) (by omega) (start_ok hb192)
 rw [show limbs 6 0 = [0, 0, 0, 0, 0, 0] from rfl] at this
 rw [this, rootN_isq hb, zs_nat]; rfl
theorem rootI (hm : 300 ≤ m) {x : Int} (hx : x.natAbs < W192) (k : List Int → Option α) : g72 m (zl x) k = k (zl (isq x.natAbs : Int)) := by
 obtain ⟨n, rfl⟩ : ∃ n, m = n + 40 := ⟨m - 40, by omega⟩
 exact g72N n (by omega) hx k
def cmpI (x y : Int) : Int := if x < y then -1 else if y < x then 1 else 0
theorem cmpI_pos {x y : Int} (sx : zs x = false) (sy : zs y = false) : cmpN x.natAbs y.natAbs = cmpI x y := by
 have hx : ¬ x < 0 := of_decide_eq_false sx
 have hy : ¬ y < 0 := of_decide_eq_false sy
 unfold cmpN cmpI
 repeat' split
 all_goals first | rfl | omega
theorem cmpI_neg {x y : Int} (sx : zs x = true) (sy : zs y = true) : cmpN y.natAbs x.natAbs = cmpI x y := by
 have hx : x < 0 := of_decide_eq_true sx
 have hy : y < 0 := of_decide_eq_true sy
 unfold cmpN cmpI
 repeat' split
 all_goals first | rfl | omega
theorem cmpI_lt {x y : Int} (sx : zs x = true) (sy : zs y = false) : -1 = cmpI x y := by
 have hx : x < 0 := of_decide_eq_true sx
 have hy : ¬ y < 0 := of_decide_eq_false sy
 unfold cmpI
 rw [if_pos (by omega)]
theorem cmpI_gt {x y : Int} (sx : zs x = false) (sy : zs y = true) : 1 = cmpI x y := by
 have hx : ¬ x < 0 := of_decide_eq_false sx
 have hy : y < 0 := of_decide_eq_true sy
 unfold cmpI
 rw [if_neg (by omega), if_pos (by omega)]
theorem cmpS (hm : 300 ≤ m) {x y : Int} (hx : x.natAbs < W192) (hy : y.natAbs < W192) (k : Int → Option α) :
  g66 m (zs x) (zl x) (zs y) (zl y) k = k (cmpI x y) := by
 obtain ⟨n, rfl⟩ : ∃ n, m = n + 7 := ⟨m - 7, by omega⟩
 unfold zl
 rw [g66_o]
 cases sx : zs x <;> cases sy : zs y <;> simp only [cond_true, cond_false, Bool.not_true, Bool.not_false]
 ·rw [g105L n hx hy, cmpI_pos sx sy]
 ·rw [cmpI_gt sx sy]
 ·rw [cmpI_lt sx sy]
 ·rw [g105L n hy hx, cmpI_neg sx sy]
theorem cmpIm (hm : 300 ≤ m) {x y : Int} (hx : x.natAbs < W192) (hy : y.natAbs < W192) (k : Int → Option α) :
  g73 m (zs x) (zl x) (zs y) (zl y) k = k (cmpI x y) := by
 obtain ⟨n, rfl⟩ : ∃ n, m = n + 7 := ⟨m - 7, by omega⟩
 unfold zl
 rw [g73_o]
 cases sx : zs x <;> cases sy : zs y <;> simp only [cond_true, cond_false, Bool.not_true, Bool.not_false, beq_self_eq_true, show (false == true) = false from rfl, show (true == false) = false from rfl]
 ·rw [g89L n hx hy, cmpI_pos sx sy]
 ·rw [cmpI_gt sx sy]
 ·rw [cmpI_lt sx sy]
 ·rw [g89L n hy hx, cmpI_neg sx sy]
theorem upS (hm : 300 ≤ m) {p : Nat} {x : Int} (hx : x.natAbs < W192) (k : Bool → List Int → Int → Option α) :
  g131 m (zs x) (zl x) (p : Int) k = if p ≤ 191 then cond (fitZ (x * 2 ^ p)) (k (zs (x * 2 ^ p)) (zl (x * 2 ^ p)) 0) (k false [0, 0, 0, 0, 0, 0] 3) else k false [0, 0, 0, 0, 0, 0] 3 := by
 obtain ⟨n, rfl⟩ : ∃ n, m = n + 40 := ⟨m - 40, by omega⟩
 rw [g131_o]
 by_cases h : p ≤ 191
 ·rw [if_pos h, dF (by omega), cond_false, g117Z p (by omega) hx]
 ·rw [if_neg h, dT (by omega), cond_true]
theorem nearB (hm : 300 ≤ m) {p : Nat} (h0 : 0 < p) {x : Int} (hx : x.natAbs < W192) (k : Bool → List Int → Int → Option α) :
  g148 m (zs x) (zl x) (p : Int) k = if p ≤ 191 then k (zs (nearZ x p)) (zl (nearZ x p)) 0 else k false [0, 0, 0, 0, 0, 0] 3 := by
 rw [g148_o]
 by_cases h : p ≤ 191
 ·rw [if_pos h, dF (by omega), cond_false, nearS hm h0 (by omega) hx]
 ·rw [if_neg h, dT (by omega), cond_true]
theorem upI (hm : 300 ≤ m) {p : Nat} {x : Int} (o : Bool) (hx : x.natAbs < W192) (k : Bool → List Int → Bool → Option α) :
  g69 m (zs x) (zl x) (p : Int) o k = if p ≤ 191 then cond (fitZ (x * 2 ^ p)) (k (zs (x * 2 ^ p)) (zl (x * 2 ^ p)) o) (k false [0, 0, 0, 0, 0, 0] true) else k false [0, 0, 0, 0, 0, 0] true := by
 by_cases h : p ≤ 191
 ·obtain ⟨n, rfl⟩ : ∃ n, m = n + 40 := ⟨m - 40, by omega⟩
  rw [if_pos h, g69Z p o (by omega) hx]
 ·rw [g69_o, if_neg h, dT (by omega), cond_true]
theorem nearI (hm : 300 ≤ m) {p : Nat} {x : Int} (o : Bool) (hx : x.natAbs < W192) (k : Bool → List Int → Bool → Option α) :
  g70 m (zs x) (zl x) (p : Int) o k = if p ≤ 191 then k (zs (nearZ x p)) (zl (nearZ x p)) o else k false [0, 0, 0, 0, 0, 0] true := by
 by_cases h : p ≤ 191
 ·obtain ⟨n, rfl⟩ : ∃ n, m = n + 7 := ⟨m - 7, by omega⟩
  rw [if_pos h, g70W p (by omega) hx]
 ·rw [g70_o, if_neg h, dT (by omega), cond_true]
theorem addI (hm : 300 ≤ m) {x y : Int} (hx : x.natAbs < W192) (hy : y.natAbs < W192) (o : Bool) (k : Bool → List Int → Bool → Option α) :
  g62 m (zs x) (zl x) (zs y) (zl y) o k = k (zs (zt (x + y))) (zl (zt (x + y))) (o || !(fitZ (x + y))) := by
 obtain ⟨n, rfl⟩ : ∃ n, m = n + 7 := ⟨m - 7, by omega⟩
 exact g62Z hx hy o k
theorem subI (hm : 300 ≤ m) {x y : Int} (hx : x.natAbs < W192) (hy : y.natAbs < W192) (o : Bool) (k : Bool → List Int → Bool → Option α) :
  g63 m (zs x) (zl x) (zs y) (zl y) o k = k (zs (zt (x - y))) (zl (zt (x - y))) (o || !(fitZ (x - y))) := by
 obtain ⟨n, rfl⟩ : ∃ n, m = n + 7 := ⟨m - 7, by omega⟩
 exact g63Z hx hy o k
theorem mulI (hm : 300 ≤ m) {x y : Int} (hx : x.natAbs < W192) (hy : y.natAbs < W192) (o : Bool) (k : Bool → List Int → Bool → Option α) :
  g61 m (zs x) (zl x) (zs y) (zl y) o k = cond (fitZ (x * y)) (k (zs (x * y)) (zl (x * y)) o) (k false [0, 0, 0, 0, 0, 0] true) := by
 obtain ⟨n, rfl⟩ : ∃ n, m = n + 7 := ⟨m - 7, by omega⟩
 exact g61Z hx hy o k
theorem addS (hm : 300 ≤ m) {x y : Int} (hx : x.natAbs < W192) (hy : y.natAbs < W192) (k : Bool → List Int → Int → Option α) :
  g65 m (zs x) (zl x) (zs y) (zl y) k = cond (fitZ (x + y)) (k (zs (x + y)) (zl (x + y)) 0) (k false [0, 0, 0, 0, 0, 0] 3) := by
 obtain ⟨n, rfl⟩ : ∃ n, m = n + 7 := ⟨m - 7, by omega⟩
 exact g65Z hx hy k
theorem compare5 (hm : 300 ≤ m) {x : Int} (hx : x.natAbs < W192) (k : Int → Option α) : g89 m (zl x) [5, 0, 0, 0, 0, 0] k = k (cmpN x.natAbs 5) := by
 obtain ⟨n, rfl⟩ : ∃ n, m = n + 7 := ⟨m - 7, by omega⟩
 exact g89L n (b := 5) hx (by decide) k
end
end Go.Proofs.Ytlmmgjngihlpeaa.Sx
