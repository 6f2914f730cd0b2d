/- Plain laws: what the functions on wides tell of whole numbers. Our own work. -/
import Derived.Test.YtlmmgjngihlpeaaZedC
namespace Go.Proofs.Ytlmmgjngihlpeaa.Sx
open Go
set_option linter.unusedVariables false
set_option linter.unusedSimpArgs false
set_option maxRecDepth 100000
variable {α : Type} {n : Nat}
theorem g56W (m : Nat) (b : Bool) (l : List Int) (o : Bool) (k : Bool → List Int → Int → Option α) : g56 m b l o k = cond o (k false [0, 0, 0, 0, 0, 0] 3) (k b l 0) := by rw [g56_o]
theorem g59W (m : Nat) {x : Int} (hx : x.natAbs < W192) (k : Int → Option α) : g59 m (zs x) (zl x) k = k x.sign := by
  unfold zl
  rw [g59L m (zs x) hx]
  unfold zs
  rcases Int.lt_trichotomy x 0 with h | h | h
  · rw [decide_eq_true h, cond_true, Int.sign_eq_neg_one_of_neg h]
  · subst h; rfl
  · rw [decide_eq_false (show ¬ x < 0 by omega), cond_false, decide_eq_false (show ¬ x.natAbs = 0 by omega), cond_false, Int.sign_eq_one_of_pos h]
theorem g54W (m : Nat) {x : Int} (hx : x.natAbs < W192) (k : Int → Option α) : g54 m (zs x) (zl x) k = k x.sign := by
  unfold zl
  rw [g54L m (zs x) hx]
  unfold zs
  rcases Int.lt_trichotomy x 0 with h | h | h
  · rw [decide_eq_true h, cond_true, Int.sign_eq_neg_one_of_neg h]
  · subst h; rfl
  · rw [decide_eq_false (show ¬ x < 0 by omega), cond_false, decide_eq_false (show ¬ x.natAbs = 0 by omega), cond_false, Int.sign_eq_one_of_pos h]
theorem sign_ne {y : Int} (h : y ≠ 0) : (y.sign == 0) = false := by
  have : y.sign ≠ 0 := fun e => h (Int.sign_eq_zero_iff_zero.1 e)
  simpa using this
theorem g13W (m : Nat) (hm : 240 ≤ m) {x y : Int} (hx : x.natAbs < W192) (hy : y.natAbs < W192) (h0 : y ≠ 0) (k : Bool → List Int → Bool → List Int → Int → Option α) :
    g13 m (zs x) (zl x) (zs y) (zl y) k = k (zs (x.fdiv y)) (zl (x.fdiv y)) (zs (x.fmod y)) (zl (x.fmod y)) 0 := by
  rw [g13_o, g53Z _ hx, Bool.not_true, cond_false, g53Z _ hy, Bool.not_true, cond_false, g54W _ hy, sign_ne h0, cond_false, g55Z m hm hx hy h0]
theorem g13E (m : Nat) {x : Int} (hx : x.natAbs < W192) (k : Bool → List Int → Bool → List Int → Int → Option α) :
    g13 m (zs x) (zl x) (zs 0) (zl 0) k = k false [0, 0, 0, 0, 0, 0] false [0, 0, 0, 0, 0, 0] 4 := by
  rw [g13_o, g53Z _ hx, Bool.not_true, cond_false, g53Z _ (by decide), Bool.not_true, cond_false, g54W _ (by decide)]; rfl
theorem g15W (m : Nat) (hm : 240 ≤ m) {x y : Int} (hx : x.natAbs < W192) (hy : y.natAbs < W192) (h0 : y ≠ 0) (k : Bool → List Int → Bool → List Int → Int → Option α) :
    g15 m (zs x) (zl x) (zs y) (zl y) k = k (zs (x.fdiv y)) (zl (x.fdiv y)) (zs (x.fmod y)) (zl (x.fmod y)) 0 := by
  rw [g15_o, g58Z _ hx, Bool.not_true, cond_false, g58Z _ hy, Bool.not_true, cond_false, g59W _ hy, sign_ne h0, cond_false, g60Z m hm hx hy h0]
theorem g14W (m : Nat) (hm : 240 ≤ m) {x y : Int} (hx : x.natAbs < W192) (hy : y.natAbs < W192) (h0 : y ≠ 0) (k : Bool → List Int → Int → Option α) :
    g14 m (zs x) (zl x) (zs y) (zl y) k = k (zs (dnZ x y)) (zl (dnZ x y)) 0 := by
  rw [g14_o, g53Z _ hx, Bool.not_true, cond_false, g53Z _ hy, Bool.not_true, cond_false, g54W _ hy, sign_ne h0, cond_false, g57Z m hm hx hy h0, g56W, cond_false]
theorem g14E (m : Nat) {x : Int} (hx : x.natAbs < W192) (k : Bool → List Int → Int → Option α) :
    g14 m (zs x) (zl x) (zs 0) (zl 0) k = k false [0, 0, 0, 0, 0, 0] 4 := by
  rw [g14_o, g53Z _ hx, Bool.not_true, cond_false, g53Z _ (by decide), Bool.not_true, cond_false, g54W _ (by decide)]; rfl
theorem g26W (m : Nat) (hm : 240 ≤ m) {x y : Int} (hx : x.natAbs < W192) (hy : y.natAbs < W192) (h0 : y ≠ 0) (k : Bool → List Int → Int → Option α) :
    g26 m (zs x) (zl x) (zs y) (zl y) k = k (zs (dnZ x y)) (zl (dnZ x y)) 0 := by
  rw [g26_o, g58Z _ hx, Bool.not_true, cond_false, g58Z _ hy, Bool.not_true, cond_false, g59W _ hy, sign_ne h0, cond_false, g71Z m hm hx hy h0]
theorem g16W {x y : Int} (hx : x.natAbs < W192) (hy : y.natAbs < W192) (k : Bool → List Int → Int → Option α) :
    g16 (n + 7) (zs x) (zl x) (zs y) (zl y) k = cond (fitZ (x * y)) (k (zs (x * y)) (zl (x * y)) 0) (k false [0, 0, 0, 0, 0, 0] 3) := by
  rw [g16_o, g53Z _ hx, Bool.not_true, cond_false, g53Z _ hy, Bool.not_true, cond_false, g61Z hx hy]
  cases fitZ (x * y)
  · rw [cond_false, cond_false, g56W, cond_true]
  · rw [cond_true, cond_true, g56W, cond_false]
theorem g17W {x y : Int} (hx : x.natAbs < W192) (hy : y.natAbs < W192) (k : Bool → List Int → Int → Option α) :
    g17 (n + 7) (zs x) (zl x) (zs y) (zl y) k = cond (fitZ (x + y)) (k (zs (x + y)) (zl (x + y)) 0) (k false [0, 0, 0, 0, 0, 0] 3) := by
  rw [g17_o, g53Z _ hx, Bool.not_true, cond_false, g53Z _ hy, Bool.not_true, cond_false, g62Z hx hy, Bool.false_or, g56W]
  cases h : fitZ (x + y)
  · rfl
  · rw [zt_of (fitZ_iff.1 h)]; rfl
theorem g18W {x y : Int} (hx : x.natAbs < W192) (hy : y.natAbs < W192) (k : Bool → List Int → Int → Option α) :
    g18 (n + 7) (zs x) (zl x) (zs y) (zl y) k = cond (fitZ (x - y)) (k (zs (x - y)) (zl (x - y)) 0) (k false [0, 0, 0, 0, 0, 0] 3) := by
  rw [g18_o, g53Z _ hx, Bool.not_true, cond_false, g53Z _ hy, Bool.not_true, cond_false, g63Z hx hy, Bool.false_or, g56W]
  cases h : fitZ (x - y)
  · rfl
  · rw [zt_of (fitZ_iff.1 h)]; rfl
theorem g20W {x y : Int} (hx : x.natAbs < W192) (hy : y.natAbs < W192) (k : Bool → List Int → Int → Option α) :
    g20 (n + 7) (zs x) (zl x) (zs y) (zl y) k = cond (fitZ (x + y)) (k (zs (x + y)) (zl (x + y)) 0) (k false [0, 0, 0, 0, 0, 0] 3) := by
  rw [g20_o, g58Z _ hx, Bool.not_true, cond_false, g58Z _ hy, Bool.not_true, cond_false, g65Z hx hy]
theorem false_zs {x : Int} : false = zs (x.natAbs : Int) := (zs_nat _).symm
theorem abs_zl (x : Int) : zl x = zl (x.natAbs : Int) := rfl
theorem abs_abs {x : Int} (hx : x.natAbs < W192) : (x.natAbs : Int).natAbs < W192 := by rw [Int.natAbs_natCast]; exact hx
theorem g21A {x y : Int} (hx : x.natAbs < W192) (hy : y.natAbs < W192) (k : Int → Int → Option α) :
    g21 (n + 7) false (zl x) false (zl y) k = k (cmpN x.natAbs y.natAbs) 0 := by
  rw [g21_o, false_zs (x := x), abs_zl x, g58Z _ (abs_abs hx), Bool.not_true, cond_false, zs_nat, false_zs (x := y), abs_zl y, g58Z _ (abs_abs hy), Bool.not_true, cond_false, zs_nat]
  unfold zl
  rw [Int.natAbs_natCast, Int.natAbs_natCast, g66L n hx hy]
theorem g28A {x y : Int} (hx : x.natAbs < W192) (hy : y.natAbs < W192) (k : Int → Int → Option α) :
    g28 (n + 7) false (zl x) false (zl y) k = k (cmpN x.natAbs y.natAbs) 0 := by
  rw [g28_o, false_zs (x := x), abs_zl x, g53Z _ (abs_abs hx), Bool.not_true, cond_false, zs_nat, false_zs (x := y), abs_zl y, g53Z _ (abs_abs hy), Bool.not_true, cond_false, zs_nat]
  unfold zl
  rw [Int.natAbs_natCast, Int.natAbs_natCast, g73_o]
  simp only [beq_self_eq_true, Bool.not_true, cond_false, g89L n hx hy]
theorem inR_t {x lo hi : Int} (h : lo ≤ x ∧ x ≤ hi) : inR x lo hi = true := inR_iff.2 h
theorem g23W (p : Nat) (hp : p < 192) {x : Int} (hx : x.natAbs < W192) (k : Bool → List Int → Int → Option α) :
    g23 (n + 40) (zs x) (zl x) (p : Int) k = cond (fitZ (x * 2 ^ p)) (k (zs (x * 2 ^ p)) (zl (x * 2 ^ p)) 0) (k false [0, 0, 0, 0, 0, 0] 3) := by
  rw [g23_o, g53Z _ hx, Bool.not_true, cond_false, g68E, inR_t (by omega), Bool.not_true, cond_false, g69Z p false hp hx]
  cases fitZ (x * 2 ^ p)
  · rw [cond_false, cond_false, g56W, cond_true]
  · rw [cond_true, cond_true, g56W, cond_false]
theorem g24W (p : Nat) (hp : p < 192) {x : Int} (hx : x.natAbs < W192) (k : Bool → List Int → Int → Option α) :
    g24 (n + 7) (zs x) (zl x) (p : Int) k = k (zs (nearZ x p)) (zl (nearZ x p)) 0 := by
  rw [g24_o, g53Z _ hx, Bool.not_true, cond_false, g68E, inR_t (by omega), Bool.not_true, cond_false, g70W p hp hx, g56W, cond_false]
theorem zz_ok : ∀ x : Int, x.natAbs < W192 → (!(zs x && decide (x.natAbs = 0))) = true := fun x _ => zed_valid x
theorem g27W (n : Nat) (hn : 100 ≤ n) {x : Int} (hx : x.natAbs < W192) (k : Bool → List Int → Int → Option α) :
    g27 (n + 40) false (zl x) k = k false (limbs 6 (isq x.natAbs)) 0 := by
  rw [g27_o, false_zs (x := x), abs_zl x, g53Z _ (abs_abs hx), Bool.not_true, cond_false, zs_nat, cond_false]
  unfold zl
  rw [Int.natAbs_natCast, g72N n hn hx, g64L _ _ (show isq x.natAbs < W192 by have := isq_le x.natAbs; omega)]
  rfl
theorem g29W (m : Nat) (hm : W192 + 240 ≤ m) {x y : Int} (hx : x.natAbs < W192) (hy : y.natAbs < W192) (k : Bool → List Int → Int → Option α) :
    g29 m (zs x) (zl x) (zs y) (zl y) k = k false (limbs 6 (Nat.gcd x.natAbs y.natAbs)) 0 := by
  have hg : Nat.gcd x.natAbs y.natAbs < W192 := by
    rcases Nat.eq_zero_or_pos x.natAbs with h | h
    · rw [h, Nat.gcd_zero_left]; exact hy
    · exact Nat.lt_of_le_of_lt (Nat.gcd_le_left _ h) hx
  rw [g29_o, g53Z _ hx, Bool.not_true, cond_false, g53Z _ hy, Bool.not_true, cond_false, g74_o]
  unfold zl
  rw [g74loop m (by omega) [0, 0, 0, 0, 0, 0] _ y.natAbs m x.natAbs y.natAbs (Nat.le_refl _) (by omega) hx hy, g64L _ _ hg]
  rfl
/-- Powers of 2. -/
theorem pow2_loop (n : Nat) (c : Bool) (z : List Int) (k : Bool → Bool → List Int → Option α) : ∀ (j f i : Nat), j < f → i + j < 192 →
    g25l0 (g61 (n + 7)) (zs 2) (zl 2) c z k f (j : Int) false (zs ((2 : Int) ^ i)) (zl ((2 : Int) ^ i)) = k false (zs ((2 : Int) ^ (i + j))) (zl ((2 : Int) ^ (i + j)))
  | 0, f, i, hf, hi => by
    obtain ⟨f, rfl⟩ : ∃ i, f = i + 1 := ⟨f - 1, by omega⟩
    rw [g25l0_s]; rfl
  | j + 1, f, i, hf, hi => by
    obtain ⟨f, rfl⟩ : ∃ i, f = i + 1 := ⟨f - 1, by omega⟩
    have fit : ∀ t : Nat, t < 192 → ((2 : Int) ^ t).natAbs < W192 := by
      intro t ht
      rw [Int.natAbs_pow, ← pow192]
      exact (Nat.pow_lt_pow_iff_right (by decide)).2 ht
    have e : (2 : Int) ^ i * 2 = 2 ^ (i + 1) := (Int.pow_succ 2 i).symm
    rw [g25l0_s, decide_eq_true (by omega), cond_true, g61Z (fit i (by omega)) (by decide), e, fitZ_iff.2 (fit (i + 1) (by omega)), cond_true, wrapI64 (x := ((j + 1 : Nat) : Int) - 1) (by omega) (by omega),
      show ((j + 1 : Nat) : Int) - 1 = (j : Int) by omega, pow2_loop n c z k j f (i + 1) (by omega) (by omega), show i + 1 + j = i + (j + 1) by omega]
theorem g25W (p : Nat) (hp : p < 192) (n : Nat) (hn : 200 ≤ n) (k : Bool → List Int → Int → Option α) : g25 (n + 7) (zs 2) (zl 2) (p : Int) k = k (zs ((2 : Int) ^ p)) (zl ((2 : Int) ^ p)) 0 := by
  rw [g25_o, g53Z _ (by decide), Bool.not_true, cond_false, g68E, inR_t (by omega), Bool.not_true, cond_false, g19Z _ (by omega) (by omega)]
  have := pow2_loop (α := α) n false [0, 0, 0, 0, 0, 0] (fun b1281 b1282 l1283 => g56 (n + 7) b1282 l1283 b1281 fun b l x => k b l x) p (n + 7) 0 (by omega) (by omega)
  rw [show (2 : Int) ^ 0 = 1 from rfl, Nat.zero_add] at this
  rw [this, g56W, cond_false]
end Go.Proofs.Ytlmmgjngihlpeaa.Sx
