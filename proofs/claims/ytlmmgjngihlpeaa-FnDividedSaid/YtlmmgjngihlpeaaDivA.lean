/- Plain laws: FnDivided. Our own work. -/
import Derived.Test.YtlmmgjngihlpeaaDrawA
namespace Go.Proofs.Ytlmmgjngihlpeaa.Sx
open Go
set_option linter.unusedVariables false
set_option linter.unusedSimpArgs false
set_option maxRecDepth 100000
theorem eqLI_Z {x y : Int} (hx : x.natAbs < W192) (hy : y.natAbs < W192) : eqLI (zl x) (zl y) = decide (x.natAbs = y.natAbs) := eqLI_limbs hx hy
theorem same_Z {x y : Int} (hx : x.natAbs < W192) (hy : y.natAbs < W192) : ((zs x == zs y) && (eqLI (zl x) (zl y))) = decide (x = y) := by
  rw [eqLI_Z hx hy]
  unfold zs
  by_cases h : x = y
  · subst h; simp
  · by_cases h1 : x < 0 <;> by_cases h2 : y < 0
    · have : ¬ x.natAbs = y.natAbs := by omega
      simp [h1, h2, h, this]
    · simp [h1, h2, h]
    · simp [h1, h2, h]
    · have : ¬ x.natAbs = y.natAbs := by omega
      simp [h1, h2, h, this]
theorem self_Z {x : Int} (hx : x.natAbs < W192) : ((zs x == zs x) && (eqLI (zl x) (zl x))) = true := by rw [same_Z hx hx]; exact decide_eq_true rfl
theorem zero_Z {x : Int} (hx : x.natAbs < W192) : ((zs x == false) && (eqLI (zl x) [0, 0, 0, 0, 0, 0])) = decide (x = 0) := same_Z (y := 0) hx (by decide)
theorem half_W {x : Int} (h : x.natAbs < 2 ^ 90) : x.natAbs < W192 := Nat.lt_trans h (by decide)
theorem dn_step (x y : Int) : dnZ x y - x.fdiv y = cond (decide (y.natAbs ≤ 2 * (x.fmod y).natAbs)) 1 0 := by
  unfold dnZ
  by_cases h : y.natAbs ≤ 2 * (x.fmod y).natAbs
  · rw [dT h, cond_true, cond_true]; omega
  · rw [dF h, cond_false, cond_false]; omega
theorem fmod_W {x y : Int} (hy : y.natAbs < W192) (h0 : y ≠ 0) : (x.fmod y).natAbs < W192 := (fmod_abs hy h0).2.1
theorem two_pow_fit {p : Nat} (hp : p < 192) : ((2 : Int) ^ p).natAbs < W192 := by
  rw [Int.natAbs_pow, ← pow192]
  exact (Nat.pow_lt_pow_iff_right (by decide)).2 hp
theorem up_fit {x : Int} {p : Nat} (hx : x.natAbs < 2 ^ 90) (hp : p ≤ 60) : (x * 2 ^ p).natAbs < W192 := by
  rw [Int.natAbs_mul, Int.natAbs_pow]
  have h1 : (2 : Int).natAbs ^ p ≤ 2 ^ 60 := Nat.pow_le_pow_right (by decide) hp
  have h2 : (2 : Nat) ^ 90 * 2 ^ 60 < W192 := by decide
  exact Nat.lt_of_le_of_lt (Nat.mul_le_mul (Nat.le_of_lt hx) h1) h2
theorem near_up (x : Int) (p : Nat) : nearZ (x * 2 ^ p) p = x := by
  unfold nearZ
  by_cases h : p = 0
  · subst h; simp
  · rw [dF h, cond_false]
    have hp : (0 : Int) < 2 ^ p := Int.pow_pos (by decide)
    have h2 : (2 : Int) ^ p = 2 * 2 ^ (p - 1) := by rw [← Int.pow_succ']; congr 1; omega
    have h3 : (0 : Int) < 2 ^ (p - 1) := Int.pow_pos (by decide)
    refine ((Int.ediv_emod_unique hp).2 ⟨?_, ?_, ?_⟩ : _ / _ = x ∧ _ % _ = (2 : Int) ^ (p - 1)).1
    · rw [Int.mul_comm]; omega
    · omega
    · omega
theorem near_pow (x : Int) (p : Nat) : nearZ x p = dnZ x (2 ^ p) := by
  have hp : (0 : Int) < 2 ^ p := Int.pow_pos (by decide)
  have h := Int.emod_add_mul_ediv x (2 ^ p)
  have h1 := Int.emod_nonneg x (show (2 : Int) ^ p ≠ 0 by omega)
  have h2 := Int.emod_lt_of_pos x hp
  unfold dnZ
  rw [Int.fdiv_eq_ediv_of_nonneg _ (by omega), Int.fmod_eq_emod_of_nonneg _ (by omega)]
  unfold nearZ
  by_cases h0 : p = 0
  · subst h0
    simp
  · rw [dF h0, cond_false]
    have h3 : (2 : Int) ^ p = 2 * 2 ^ (p - 1) := by rw [← Int.pow_succ']; congr 1; omega
    have h4 : (0 : Int) < 2 ^ (p - 1) := Int.pow_pos (by decide)
    generalize (2 : Int) ^ p = B at *
    generalize (2 : Int) ^ (p - 1) = H at *
    by_cases hc : B.natAbs ≤ 2 * (x % B).natAbs
    · rw [dT hc, cond_true]
      refine ((Int.ediv_emod_unique hp).2 ⟨?_, ?_, ?_⟩ : _ / _ = x / B + 1 ∧ _ % _ = x % B - H).1
      · rw [Int.mul_add]; omega
      · omega
      · omega
    · rw [dF hc, cond_false]
      refine ((Int.ediv_emod_unique hp).2 ⟨?_, ?_, ?_⟩ : _ / _ = x / B ∧ _ % _ = x % B + H).1
      · omega
      · omega
      · omega
theorem isq_small {a : Nat} (h : a < 2 ^ 90) : (isq a + 1) * (isq a + 1) < W192 ∧ isq a * isq a < W192 ∧ isq a + 1 < W192 ∧ isq a < W192 := by
  have h1 := isq_le a
  obtain ⟨h2, h3⟩ := isq_spec a
  have h4 : (2 : Nat) ^ 90 * 4 + 4 < W192 := by decide
  have h5 : (isq a + 1) * (isq a + 1) = isq a * isq a + 2 * isq a + 1 := by rw [Nat.add_mul, Nat.mul_add]; omega
  omega
theorem gcd_fmod {x : Int} {g : Nat} (h : g ∣ x.natAbs) : x.fmod (g : Int) = 0 := by
  have : (g : Int) ∣ x := Int.ofNat_dvd_left.2 h
  exact Int.fmod_eq_zero_of_dvd this
theorem mulNat {a b : Nat} {α : Type} {n : Nat} (ha : a < W192) (hb : b < W192) (h : a * b < W192) (k : Bool → List Int → Int → Option α) :
    g16 (n + 7) false (limbs 6 a) false (limbs 6 b) k = k false (limbs 6 (a * b)) 0 := by
  have e := g16W (α := α) (n := n) (x := (a : Int)) (y := (b : Int)) (by rw [Int.natAbs_natCast]; exact ha) (by rw [Int.natAbs_natCast]; exact hb) k
  rw [← Int.natCast_mul, zs_nat, zs_nat, zs_nat, zl_nat, zl_nat, zl_nat, fitZ_iff.2 (by rw [Int.natAbs_natCast]; exact h), cond_true] at e
  exact e
theorem addNat {a b : Nat} {α : Type} {n : Nat} (ha : a < W192) (hb : b < W192) (h : a + b < W192) (k : Bool → List Int → Int → Option α) :
    g17 (n + 7) false (limbs 6 a) false (limbs 6 b) k = k false (limbs 6 (a + b)) 0 := by
  have e := g17W (α := α) (n := n) (x := (a : Int)) (y := (b : Int)) (by rw [Int.natAbs_natCast]; exact ha) (by rw [Int.natAbs_natCast]; exact hb) k
  rw [← Int.natCast_add, zs_nat, zs_nat, zs_nat, zl_nat, zl_nat, zl_nat, fitZ_iff.2 (by rw [Int.natAbs_natCast]; exact h), cond_true] at e
  exact e
theorem cmpNat {a b : Nat} {α : Type} {n : Nat} (ha : a < W192) (hb : b < W192) (k : Int → Int → Option α) :
    g28 (n + 7) false (limbs 6 a) false (limbs 6 b) k = k (cmpN a b) 0 :=
  g28A (α := α) (n := n) (x := (a : Int)) (y := (b : Int)) (by rw [Int.natAbs_natCast]; exact ha) (by rw [Int.natAbs_natCast]; exact hb) k
theorem wideOne {α : Type} (m : Nat) (k : Bool → List Int → Option α) : g19 m 1 k = k false (limbs 6 1) := g19Z m (by omega) (by omega) k
theorem restD {α : Type} (n c c' : Nat) (hn : W192 + 300 ≤ n + 40) {u v : List Int} (hu : Byt u) (hv : Byt v) {x : Int} (hx90 : x.natAbs < 2 ^ 90) (ex : ∀ {α : Type} (k : Bool → List Int → Option α), g12 (n + 40) 0 u.length c u.length u k = k (zs x) (zl x))
    {p : Nat} (ep : ∀ {α : Type} (k : Int → Option α), g22 (n + 40) 0 v.length c' 60 v.length v k = k (p : Int)) (hp : p < 60) {y : Int} (hy : y.natAbs < W192) (h0 : y ≠ 0) : ∀ (k : Bool → Option α), (g22 (n + 40) 0 v.length c' 60 v.length v fun t => g12 (n + 40) 0 u.length c u.length u fun b1 l1 => g23 (n + 40) b1 l1 t fun b2 l2 x2 => g24 (n + 40) b2 l2 t fun b3 l3 x3 => g19 (n + 40) 2 fun b4 l4 => g25 (n + 40) b4 l4 t fun b5 l5 x5 =>
          g16 (n + 40) b1 l1 b5 l5 fun b6 l6 x6 => g24 (n + 40) b1 l1 t fun b7 l7 x7 => g26 (n + 40) b1 l1 b5 l5 fun b8 l8 x8 => cond (x2 != 0) (k false) (cond (x3 != 0) (k false) (cond (!((b3 == b1) && (eqLI l3 l1))) (k false) (cond (x5 != 0) (k false) (cond (x6 != 0) (k false)
          (cond (!((b6 == b2) && (eqLI l6 l2))) (k false) (cond (x7 != 0) (k false) (cond (x8 != 0) (k false) (cond (!((b7 == b8) && (eqLI l7 l8))) (k false) (g27 (n + 40) false l1 fun b9 l9 x9 => g16 (n + 40) b9 l9 b9 l9 fun b10 l10 x10 => g19 (n + 40) 1 fun b11 l11 => g17 (n + 40) b9 l9 b11 l11 fun b12 l12 x12 =>
          g16 (n + 40) b12 l12 b12 l12 fun b13 l13 x13 => g28 (n + 40) b10 l10 false l1 fun y1 y2 => g28 (n + 40) b13 l13 false l1 fun y3 y4 => g29 (n + 40) b1 l1 (zs y) (zl y) fun b14 l14 x14 => g13 (n + 40) b1 l1 b14 l14 fun b15 l15 b16 l16 x16 =>
          g13 (n + 40) (zs y) (zl y) b14 l14 fun b17 l17 b18 l18 x18 => cond (x9 == 0) (cond (x10 == 0) (cond (x12 == 0) (cond (x13 == 0) (cond (y2 == 0) (cond (decide (y1 ≤ 0)) (cond (y4 == 0) (cond (decide (y3 > 0)) (cond (x14 == 0) (cond (x16 == 0) (cond ((b16 == false) && (eqLI l16 [0, 0, 0, 0, 0, 0])) (cond (x18 == 0)
          (k ((b18 == false) && (eqLI l18 [0, 0, 0, 0, 0, 0]))) (k false)) (k false)) (k false)) (k false)) (k false)) (k false)) (k false)) (k false)) (k false)) (k false)) (k false)) (k false))))))))))) = k true := by
  have hx := half_W hx90
  have hm : 240 ≤ n + 40 := by omega
  intro k
  have hpf := two_pow_fit (p := p) (by omega)
  have hpn : (2 : Int) ^ p ≠ 0 := by have := Int.pow_pos (m := p) (show (0 : Int) < 2 by decide); omega
  have huf := up_fit hx90 (show p ≤ 60 by omega)
  have hnf := nearZ_fit (p := p) hx
  have hdn := (dn_res (n + 40) hm hx hpf hpn).1
  obtain ⟨i1, i2, i3, i4⟩ := isq_small (a := x.natAbs) hx90
  obtain ⟨s1, s2⟩ := isq_spec x.natAbs
  have hg0 : 0 < Nat.gcd x.natAbs y.natAbs := Nat.gcd_pos_of_pos_right _ (by omega)
  have hgW : Nat.gcd x.natAbs y.natAbs < W192 := Nat.lt_of_le_of_lt (Nat.gcd_le_right _ (by omega)) hy
  have hgz : ((Nat.gcd x.natAbs y.natAbs : Nat) : Int) ≠ 0 := by omega
  have hgf : ((Nat.gcd x.natAbs y.natAbs : Nat) : Int).natAbs < W192 := by rw [Int.natAbs_natCast]; exact hgW
  have gz : false = zs ((Nat.gcd x.natAbs y.natAbs : Nat) : Int) := (zs_nat _).symm
  rw [ep, ex, g23W (n := n) p (by omega) hx, fitZ_iff.2 huf, cond_true, g24W (n := n + 33) p (by omega) huf, near_up, g19Z _ (by omega) (by omega), g25W p (by omega) (n + 33) (by omega), g16W (n := n + 33) hx hpf, fitZ_iff.2 huf, cond_true,
    g24W (n := n + 33) p (by omega) hx, g26W _ hm hx hpf hpn, ← near_pow]
  rw [bne_self_eq_false, cond_false, cond_false, self_Z hx, Bool.not_true, cond_false, cond_false, cond_false, self_Z huf, Bool.not_true, cond_false, cond_false, cond_false, self_Z hnf, Bool.not_true, cond_false, g27W n (by omega) hx, mulNat i4 i4 i2, wideOne, addNat (n := n + 33) i4 (by decide) i3, mulNat i3 i3 i1]
  have c1 := cmpNat (α := α) (n := n + 33) i2 hx
  have c2 := cmpNat (α := α) (n := n + 33) i1 hx
  unfold zl at c1 c2 ⊢
  rw [c1, c2]
  have g1 := g29W (α := α) (n + 40) (by omega) hx hy
  unfold zl at g1
  rw [g1]
  have d1 := g13W (α := α) (n + 40) hm hx hgf hgz
  have d2 := g13W (α := α) (n + 40) hm hy hgf hgz
  rw [gcd_fmod (Nat.gcd_dvd_left _ _)] at d1
  rw [gcd_fmod (Nat.gcd_dvd_right _ _)] at d2
  unfold zl at d1 d2
  rw [Int.natAbs_natCast, zs_nat] at d1 d2
  rw [d1, d2, dT (show cmpN (isq x.natAbs * isq x.natAbs) x.natAbs ≤ 0 by have := cmpN_le (isq x.natAbs * isq x.natAbs) x.natAbs; rw [dT s1] at this; exact of_decide_eq_true this),
    dT (show cmpN ((isq x.natAbs + 1) * (isq x.natAbs + 1)) x.natAbs > 0 by have := cmpN_gt ((isq x.natAbs + 1) * (isq x.natAbs + 1)) x.natAbs; rw [dT s2] at this; exact of_decide_eq_true this)]
  rfl
theorem tailD {α : Type} (n : Nat) (hn : W192 + 300 ≤ n + 40) {z y : Int} (hy90 : y.natAbs < 2 ^ 90) (hz : z.natAbs < W192) (h0 : y ≠ 0) : ∀ (k : Bool → Option α) (A B : Option α), A = k true → B = k true → (g18 (n + 40) (zs (dnZ z y)) (zl (dnZ z y)) (zs (z.fdiv y)) (zl (z.fdiv y)) fun b l x => cond (x != 0) (k false) (g19 (n + 40) 0 fun b1 l1 => cond (!((b == b1) && (eqLI l l1)))
            (g19 (n + 40) 1 fun b2 l2 => cond (!((b == b2) && (eqLI l l2))) (k false) (g20 (n + 40) (zs (z.fmod y)) (zl (z.fmod y)) (zs (z.fmod y)) (zl (z.fmod y)) fun b3 l3 x3 => g21 (n + 40) false l3 false (zl y) fun y1 y2 => cond (x3 == 0) (cond (y2 != 0) (k false)
              (g19 (n + 40) 1 fun b4 l4 => cond (!((decide (y1 ≥ 0)) == ((b == b4) && (eqLI l l4)))) (k false) A)) B))
            (g20 (n + 40) (zs (z.fmod y)) (zl (z.fmod y)) (zs (z.fmod y)) (zl (z.fmod y)) fun b3 l3 x3 => g21 (n + 40) false l3 false (zl y) fun y1 y2 => cond (x3 == 0) (cond (y2 != 0) (k false)
              (g19 (n + 40) 1 fun b4 l4 => cond (!((decide (y1 ≥ 0)) == ((b == b4) && (eqLI l l4)))) (k false) A)) B))) = k true := by
        have hy := half_W hy90
        have hm : 240 ≤ n + 40 := by omega
        have hq := (fdiv_fit (x := z) (y := y) hz h0).1
        have hr := fmod_W (x := z) hy h0
        have hrr := (fmod_abs (x := z) hy h0).2.2
        have hd := (dn_res (n + 40) hm hz hy h0).1
        have hstep := dn_step z y
        have hsf : (dnZ z y - z.fdiv y).natAbs < W192 := by rw [hstep]; cases decide (y.natAbs ≤ 2 * (z.fmod y).natAbs) <;> decide
        have h2f : (z.fmod y + z.fmod y).natAbs < W192 := by
          have : (2 : Nat) ^ 90 * 2 < W192 := by decide
          omega
        have hcmp : cmpN (z.fmod y + z.fmod y).natAbs y.natAbs ≥ 0 ↔ y.natAbs ≤ 2 * (z.fmod y).natAbs := by
          have := cmpN_ge0 (z.fmod y + z.fmod y).natAbs y.natAbs
          constructor
          · intro h
            rw [dT h] at this
            have := of_decide_eq_true this.symm
            omega
          · intro h
            rw [dT (show y.natAbs ≤ (z.fmod y + z.fmod y).natAbs by omega)] at this
            exact of_decide_eq_true this
        intro k A B hA hB
        rw [g18W (n := n + 33) hd hq, fitZ_iff.2 hsf, cond_true, bne_self_eq_false, cond_false, g19Z _ (by omega) (by omega), same_Z hsf (by decide), hstep]
        by_cases hc : y.natAbs ≤ 2 * (z.fmod y).natAbs
        · rw [dT hc, cond_true, dF (show ¬ (1 : Int) = 0 by decide), Bool.not_false, cond_true, g19Z _ (by omega) (by omega), self_Z (by decide), Bool.not_true, cond_false, g20W (n := n + 33) hr hr, fitZ_iff.2 h2f, cond_true,
            g21A (n := n + 33) h2f hy, beq_self_eq_true, cond_true, bne_self_eq_false, cond_false, g19Z _ (by omega) (by omega), self_Z (by decide), dT (hcmp.2 hc), beq_self_eq_true, Bool.not_true, cond_false, hA]
        · rw [dF hc, cond_false, dT rfl, Bool.not_true, cond_false, g20W (n := n + 33) hr hr, fitZ_iff.2 h2f, cond_true,
            g21A (n := n + 33) h2f hy, beq_self_eq_true, cond_true, bne_self_eq_false, cond_false, g19Z _ (by omega) (by omega), same_Z (by decide) (by decide), dF (fun h => hc (hcmp.1 h)), dF (show ¬ (0 : Int) = 1 by decide), beq_self_eq_true, Bool.not_true, cond_false, hA]
theorem lawDivided {α : Type} (n c c' : Nat) (hn : W192 + 300 ≤ n + 40) {u v : List Int} (hu : Byt u) (hv : Byt v) (k : Bool → Option α) :
    g3 (n + 40) 0 u.length c 0 v.length c' u.length u v.length v k = k true := by
  rw [g3_o, g10_o]
  by_cases hul : u.length ≤ 4096
  · rw [dF (by omega), cond_false, g10_o]
    by_cases hvl : v.length ≤ 4096
    · rw [dF (by omega), cond_false]
      obtain ⟨z, hz, ez⟩ := P6Wide_res (n + 40) c (by omega) hu
      obtain ⟨y, hy90, ey⟩ := P6Half_res (n + 40) c' (by omega) hv
      obtain ⟨x, hx90, ex⟩ := P6Half_res (n + 40) c (by omega) hu
      obtain ⟨p0, hp0, hp60, _, ep⟩ := P6Pick_res (n + 40) c' hv 60 (by omega)
      obtain ⟨p, rfl⟩ : ∃ p : Nat, p0 = p := ⟨p0.toNat, by omega⟩
      have hp : p < 60 := by have := hp60 (by omega); omega
      have hy := half_W hy90
      have hx := half_W hx90
      have hm : 240 ≤ n + 40 := by omega
      rw [ez, ey, zero_Z hy]
      by_cases h0 : y = 0
      · subst h0
        rw [dT rfl, cond_true, g13E _ hz, g14E _ hz, beq_self_eq_true, cond_true]
      · have hq := (fdiv_fit (x := z) (y := y) hz h0).1
        have hr := fmod_W (x := z) hy h0
        have hrr := (fmod_abs (x := z) hy h0).2.2
        have hd := (dn_res (n + 40) hm hz hy h0).1
        have rest := restD (α := α) n c c' hn hu hv hx90 ex ep hp hy h0
        have hback : z.fdiv y * y + z.fmod y = z := by rw [Int.mul_comm]; exact Int.mul_fdiv_add_fmod z y
        rw [dF h0, cond_false, g13W _ hm hz hy h0, g15W _ hm hz hy h0, g14W _ hm hz hy h0]
        rw [bne_self_eq_false, cond_false, cond_false, self_Z hq, Bool.not_true, cond_false, self_Z hr, Bool.not_true, cond_false, cond_false, g16W (n := n + 33) hq hy]
        have tail := tailD (α := α) n hn hy90 hz h0
        by_cases hf : fitZ (z.fdiv y * y) = true
        · have hf' := fitZ_iff.1 hf
          rw [hf, cond_true, beq_self_eq_true, cond_true, g17W (n := n + 33) hf' hr, hback, fitZ_iff.2 hz, cond_true, bne_self_eq_false, cond_false, self_Z hz, Bool.not_true, cond_false]
          exact tail k _ _ (rest k) (rest k)
        · simp only [Bool.not_eq_true] at hf
          rw [hf, cond_false, show ((3 : Int) == 0) = false from rfl, cond_false]
          exact tail k _ _ (rest k) (rest k)
    · rw [dT (by omega), cond_true]
  · rw [dT (by omega), cond_true]
def apBB : List AP := [.sl (.int .u8), .sl (.int .u8)]
theorem byt_of {l : List Int} (h : EK.Ws (.int .u8) l) : Byt l := fun x hx => lit_u8 (h x hx)
theorem lawDividedM (n : Nat) (hn : W192 + 300 ≤ n + 40) (ls : List Lf) (hw : WA apBB ls) : g3K (g3 (n + 40)) ls (fun v _ _ => saysTrue v) = some () := by
  obtain ⟨⟨a1, a2, a3, a4, a5, a6⟩, ⟨b1, b2, b3, b4, b5, b6⟩, _⟩ := hw
  unfold g3K
  have e0 : (lf ls 0).nat = 0 := a1
  have e3 : (lf ls 3).nat = 0 := b1
  have e1 : (lf ls 1).nat = ((lf ls 7).lst (.int .u8)).length := a5.symm
  have e4 : (lf ls 4).nat = ((lf ls 9).lst (.int .u8)).length := b5.symm
  have e6 : (lf ls 6).nat = (lf ls 1).nat := a2
  have e8 : (lf ls 8).nat = (lf ls 4).nat := b2
  rw [e6, e8, e0, e3, e1, e4]
  exact lawDivided n _ _ hn (byt_of a6) (byt_of b6) _
theorem w192_eq : W192 = 6277101735386680763835789423207666416102355444464034512896 := by decide
theorem lawDivided' (ls : List Lf) (hw : WA apBB ls) : g3K (g3 6277101735386680763835789423207666416102355444464034513236) ls (fun v _ _ => saysTrue v) = some () :=
  lawDividedM 6277101735386680763835789423207666416102355444464034513196 (by rw [w192_eq]; decide) ls hw
end Go.Proofs.Ytlmmgjngihlpeaa.Sx
