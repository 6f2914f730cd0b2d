/- Plain laws: ValueOfDigits. Our own work. -/
import Derived.Test.YtobejeiffgehfaaTermI
namespace Go.Proofs.Ytobejeiffgehfaa.Sx
open Go
set_option linter.unusedVariables false
set_option linter.unusedSimpArgs false
set_option maxRecDepth 100000
/-! ### A copy of a row of digits, and its comparison -/
theorem g20L {α : Type} (m cap : Nat) {u : List Int} (hlen : u.length ≤ 1048576) (hm : 1048576 < m) (k : List Int → Option α) : g20 m 0 u.length cap u.length u k = k u := by
  rw [g20_o, if_pos ⟨rfl, by omega, by omega⟩]
  have := loopR (fun m i => g20l0 0 u.length cap 0 u.length u.length u.length u u.length (fun l => k l) m (i : Int) (u.take i ++ List.replicate (u.length - i) 0)) (fun i => k u) u.length (fun m => ?_) (fun m i hi h => ?_) u.length 0 m (by omega) (by omega)
  · simpa using this
  · rw [g20l0_s, dF (by omega), cond_false, List.take_of_length_le (by omega), Nat.sub_self, List.replicate_zero, List.append_nil]
  · obtain ⟨d, hd⟩ : ∃ d, u.length - i = d + 1 := ⟨u.length - i - 1, by omega⟩
    rw [g20l0_s, dT (by omega), cond_true, if_pos (cast_lt hi), Int.toNat_natCast, Nat.zero_add, if_pos hi, if_pos (cast_lt hi), if_pos hi, hd, getD_at u 0 hi, set_step u 0 (by omega), wrapS (by omega), ← h, show u.length - (i + 1) = d by omega]
theorem g23T {α : Type} (m a b n : Nat) (u : List Int) (hn : n ≤ 1048576) (hm : 1048576 < m) (k : Bool → Option α) : g23 m 0 n a 0 n b n u n u k = k true := by
  rw [g23_o, bne_self_eq_false, cond_false]
  have := loopR (fun m' i => g23l0 0 n a 0 n b n u n u (k false) (k true) m' (i : Int)) (fun _ => k true) n (fun m' => ?_) (fun m' i hi h => ?_) n 0 m (by omega) (by omega)
  · simpa using this
  · rw [g23l0_s, dF (by omega), cond_false]
  · rw [g23l0_s, dT (by omega), cond_true, if_pos (cast_lt hi), Int.toNat_natCast, Nat.zero_add, if_pos hi, if_pos (cast_lt hi), if_pos hi, bne_self_eq_false, cond_false, wrapS (by omega), h]
/-! ### Digits -/
def Dg (x : Int) : Prop := -1 ≤ x ∧ x ≤ 1
instance (x : Int) : Decidable (Dg x) := inferInstanceAs (Decidable (_ ∧ _))
def Dgs (u : List Int) : Prop := ∀ x ∈ u, Dg x
instance (u : List Int) : Decidable (Dgs u) := inferInstanceAs (Decidable (∀ x ∈ u, Dg x))
theorem dgs_drop {u : List Int} {i : Nat} (hi : i < u.length) : Dgs (u.drop i) ↔ Dg (u[i]) ∧ Dgs (u.drop (i + 1)) := by
  rw [List.drop_eq_getElem_cons hi]
  exact List.forall_mem_cons
theorem dgs_end {u : List Int} {i : Nat} (hi : u.length ≤ i) : Dgs (u.drop i) := by rw [List.drop_eq_nil_of_le hi]; intro x hx; simp at hx
/-- What digits come to: none if a number on the way does not fit. -/
def runZ : List Int → Int → Option Int
  | [], z => some z
  | d :: r, z => cond (fitZ (z + z)) (cond (fitZ (z + z + d)) (runZ r (z + z + d)) none) none
theorem runZ_at {u : List Int} {i : Nat} (hi : i < u.length) (z : Int) : runZ (u.drop i) z = cond (fitZ (z + z)) (cond (fitZ (z + z + u[i])) (runZ (u.drop (i + 1)) (z + z + u[i])) none) none := by
  rw [List.drop_eq_getElem_cons hi]; rfl
theorem runZ_fit : ∀ (u : List Int) (z w : Int), z.natAbs < W192 → runZ u z = some w → w.natAbs < W192
  | [], z, w, hz, h => by cases h; exact hz
  | d :: r, z, w, hz, h => by
    unfold runZ at h
    cases h1 : fitZ (z + z)
    · rw [h1] at h; cases h
    · rw [h1, cond_true] at h
      cases h2 : fitZ (z + z + d)
      · rw [h2] at h; cases h
      · rw [h2, cond_true] at h
        exact runZ_fit r _ w (fitZ_iff.1 h2) h
theorem digits_loop {α : Type} (m cap : Nat) {u : List Int} (hlen : u.length ≤ 1048576) (hm : 1048576 < m) (q : Bool) (a b : List Int) (k : Bool → Option α) :
    ∀ c, g18l0 0 u.length cap u.length u q a false b k m c (0 : Int) = k (c && decide (Dgs u)) := by
  intro c
  have key : ∀ (d i m : Nat) (c : Bool), i + d = u.length → d < m → g18l0 0 u.length cap u.length u q a false b k m c (i : Int) = k (c && decide (Dgs (u.drop i))) := by
    intro d
    induction d with
    | zero =>
      intro i m c hi hm
      obtain ⟨m, rfl⟩ : ∃ n, m = n + 1 := ⟨m - 1, by omega⟩
      rw [g18l0_s, dF (by omega), cond_false, dT (dgs_end (by omega)), Bool.and_true]
    | succ d ih =>
      intro i m c hi hm
      obtain ⟨m, rfl⟩ : ∃ n, m = n + 1 := ⟨m - 1, by omega⟩
      have hi' : i < u.length := by omega
      rw [g18l0_s, dT (by omega), cond_true]
      cases c
      · rfl
      · rw [cond_true, if_pos (cast_lt hi'), Int.toNat_natCast, Nat.zero_add, if_pos hi', getD_at u 0 hi', if_pos (cast_lt hi'), if_pos hi', wrapS (by omega), ih (i + 1) m _ (by omega) (by omega), ih (i + 1) m _ (by omega) (by omega)]
        have e := dgs_drop hi'
        by_cases h1 : -1 ≤ u[i] <;> by_cases h2 : u[i] ≤ 1 <;> by_cases h3 : Dgs (u.drop (i + 1)) <;> simp [h1, h2, h3, e, Dg]
  have := key u.length 0 m c (by omega) (by omega)
  simpa using this
theorem g47Z {α : Type} (n : Nat) {z d : Int} (hz : z.natAbs < W192) (hd : Dg d) (k : Bool → List Int → Int → Option α) :
    g47 (n + 7) (zs z) (zl z) d k = cond (fitZ (z + z)) (cond (fitZ (z + z + d)) (k (zs (z + z + d)) (zl (z + z + d)) 0) (k false [0, 0, 0, 0, 0, 0] 3)) (k false [0, 0, 0, 0, 0, 0] 3) := by
  unfold Dg at hd
  rw [g47_o, g60Z (n := n) hz hz]
  cases h : fitZ (z + z)
  · rfl
  · rw [cond_true, cond_true, bne_self_eq_false, cond_false, g62Z _ (by omega) (by omega), g60Z (n := n) (fitZ_iff.1 h) (small_W (by omega) (by omega))]
theorem spec_digits {α : Type} (q m cap : Nat) {u : List Int} (hlen : u.length ≤ 1048576) (hm : 1048576 < m) (hq : 7 ≤ q) (hu : Dgs u) (a : Bool) (b : List Int) (k3 : Int → List Int → Option α) (k : Bool → List Int → Option α) :
    ∀ (z : Int), z.natAbs < W192 → g18l2 (g47 q) 0 u.length cap u.length u a b k3 k m (0 : Int) (zs z) (zl z) = (match runZ u z with | some w => k (zs w) (zl w) | none => k3 3 [0, 0, 0, 0, 0, 0]) := by
  obtain ⟨q, rfl⟩ : ∃ n, q = n + 7 := ⟨q - 7, by omega⟩
  have key : ∀ (d i m : Nat) (z : Int), i + d = u.length → d < m → z.natAbs < W192 → g18l2 (g47 (q + 7)) 0 u.length cap u.length u a b k3 k m (i : Int) (zs z) (zl z) = (match runZ (u.drop i) z with | some w => k (zs w) (zl w) | none => k3 3 [0, 0, 0, 0, 0, 0]) := by
    intro d
    induction d with
    | zero =>
      intro i m z hi hm hz
      obtain ⟨m, rfl⟩ : ∃ n, m = n + 1 := ⟨m - 1, by omega⟩
      rw [g18l2_s, dF (by omega), cond_false, List.drop_eq_nil_of_le (by omega)]; rfl
    | succ d ih =>
      intro i m z hi hm hz
      obtain ⟨m, rfl⟩ : ∃ n, m = n + 1 := ⟨m - 1, by omega⟩
      have hi' : i < u.length := by omega
      have hd : Dg (u[i]) := hu _ (List.getElem_mem hi')
      have hd' := hd
      unfold Dg at hd'
      rw [g18l2_s, dT (by omega), cond_true, if_pos (cast_lt hi'), Int.toNat_natCast, Nat.zero_add, if_pos hi', getD_at u 0 hi', wrapI (x := u[i]) (by omega) (by omega), g47Z q hz hd, runZ_at hi', wrapS (by omega)]
      cases h1 : fitZ (z + z)
      · rfl
      · rw [cond_true, cond_true]
        cases h2 : fitZ (z + z + u[i])
        · rfl
        · rw [cond_true, cond_true, bne_self_eq_false, cond_false]
          exact ih (i + 1) m _ (by omega) (by omega) (fitZ_iff.1 h2)
  intro z hz
  exact key u.length 0 m z (by omega) (by omega) hz
theorem impl_over {α : Type} (q m cap : Nat) {u : List Int} (hlen : u.length ≤ 1048576) (hq : 7 ≤ q) (hu : Dgs u) (a : Bool) (b : List Int) (k : Bool → Bool → List Int → Option α) (K : Option α) (hK : ∀ c l, k true c l = K) :
    ∀ (d i m : Nat) (z : Int), i + d = u.length → d < m → z.natAbs < W192 → g21l0 (g55 q) (g54 q) (g53 q) 0 u.length cap ((u.length : Nat) : Int) u.length u a b k m (i : Int) true (zs z) (zl z) = K := by
  obtain ⟨q, rfl⟩ : ∃ n, q = n + 7 := ⟨q - 7, by omega⟩
  intro d
  induction d with
  | zero =>
    intro i m z hi hm hz
    obtain ⟨m, rfl⟩ : ∃ n, m = n + 1 := ⟨m - 1, by omega⟩
    rw [g21l0_s, dF (by omega), cond_false, hK]
  | succ d ih =>
    intro i m z hi hm hz
    obtain ⟨m, rfl⟩ : ∃ n, m = n + 1 := ⟨m - 1, by omega⟩
    have hi' : i < u.length := by omega
    have hd : Dg (u[i]) := hu _ (List.getElem_mem hi')
    unfold Dg at hd
    rw [g21l0_s, dT (by omega), cond_true, if_pos (cast_lt hi'), Int.toNat_natCast, Nat.zero_add, if_pos hi', getD_at u 0 hi', wrapI (x := u[i]) (by omega) (by omega), g55Z _ (by omega) (by omega), wrapS (by omega),
      g54Z (n := q) (by decide) hz]
    have fd : (u[i]).natAbs < W192 := small_W (by omega) (by omega)
    cases h1 : fitZ (2 * z)
    · rw [cond_false, g55Z _ (by omega) (by omega), show false = zs 0 from rfl, ← zero_zl, g53Z (n := q) (by decide) fd, Bool.true_or]
      exact ih (i + 1) m _ (by omega) (by omega) (zt_fit _)
    · rw [cond_true, g55Z _ (by omega) (by omega), g53Z (n := q) (fitZ_iff.1 h1) fd, Bool.true_or]
      exact ih (i + 1) m _ (by omega) (by omega) (zt_fit _)
theorem impl_digits {α : Type} (q m cap : Nat) {u : List Int} (hlen : u.length ≤ 1048576) (hm : 1048576 < m) (hq : 7 ≤ q) (hu : Dgs u) (a : Bool) (b : List Int) (k : Bool → Bool → List Int → Option α) (K : Option α) (hK : ∀ c l, k true c l = K) :
    ∀ (z : Int), z.natAbs < W192 → g21l0 (g55 q) (g54 q) (g53 q) 0 u.length cap ((u.length : Nat) : Int) u.length u a b k m (0 : Int) false (zs z) (zl z) = (match runZ u z with | some w => k false (zs w) (zl w) | none => K) := by
  have hov := impl_over q m cap hlen hq hu a b k K hK
  obtain ⟨q, rfl⟩ : ∃ n, q = n + 7 := ⟨q - 7, by omega⟩
  have key : ∀ (d i m : Nat) (z : Int), i + d = u.length → d < m → z.natAbs < W192 → g21l0 (g55 (q + 7)) (g54 (q + 7)) (g53 (q + 7)) 0 u.length cap ((u.length : Nat) : Int) u.length u a b k m (i : Int) false (zs z) (zl z) = (match runZ (u.drop i) z with | some w => k false (zs w) (zl w) | none => K) := by
    intro d
    induction d with
    | zero =>
      intro i m z hi hm hz
      obtain ⟨m, rfl⟩ : ∃ n, m = n + 1 := ⟨m - 1, by omega⟩
      rw [g21l0_s, dF (by omega), cond_false, List.drop_eq_nil_of_le (by omega)]; rfl
    | succ d ih =>
      intro i m z hi hm hz
      obtain ⟨m, rfl⟩ : ∃ n, m = n + 1 := ⟨m - 1, by omega⟩
      have hi' : i < u.length := by omega
      have hd : Dg (u[i]) := hu _ (List.getElem_mem hi')
      unfold Dg at hd
      have fd : (u[i]).natAbs < W192 := small_W (by omega) (by omega)
      rw [g21l0_s, dT (by omega), cond_true, if_pos (cast_lt hi'), Int.toNat_natCast, Nat.zero_add, if_pos hi', getD_at u 0 hi', wrapI (x := u[i]) (by omega) (by omega), g55Z _ (by omega) (by omega), wrapS (by omega), runZ_at hi',
        g54Z (n := q) (by decide) hz, show 2 * z = z + z by omega]
      cases h1 : fitZ (z + z)
      · rw [cond_false, cond_false, g55Z _ (by omega) (by omega), show false = zs 0 from rfl, ← zero_zl, g53Z (n := q) (by decide) fd, Bool.true_or]
        exact hov d (i + 1) m _ (by omega) (by omega) (zt_fit _)
      · rw [cond_true, cond_true, g55Z _ (by omega) (by omega), g53Z (n := q) (fitZ_iff.1 h1) fd, Bool.false_or]
        cases h2 : fitZ (z + z + u[i])
        · rw [cond_false]
          exact hov d (i + 1) m _ (by omega) (by omega) (zt_fit _)
        · rw [cond_true, zt_of (fitZ_iff.1 h2)]
          exact ih (i + 1) m _ (by omega) (by omega) (fitZ_iff.1 h2)
  intro z hz
  exact key u.length 0 m z (by omega) (by omega) hz
theorem g52L {α : Type} (m : Nat) (x : Int) (k : Bool → Option α) : g52 m x k = k (decide (Dg x)) := by
  rw [g52_o, cond_k]
  congr 1
  by_cases h1 : -1 ≤ x <;> by_cases h2 : x ≤ 1 <;> simp [h1, h2, Dg]
theorem g50L {α : Type} (m cap : Nat) {u : List Int} (hlen : u.length ≤ 1048576) (hm : 1048576 < m) (k : Bool → Option α) : g50 m 0 u.length cap u.length u k = k (!(decide (Dgs u))) := by
  rw [g50_o, g83_o]
  have key : ∀ (d i m' : Nat), i + d = u.length → d < m' → g83l0 (g51 m) 0 u.length cap ((u.length : Nat) : Int) u.length u (fun x => k (decide (x ≥ 0))) (k (decide ((-1 : Int) ≥ 0))) m' (i : Int) = k (!(decide (Dgs (u.drop i)))) := by
    intro d
    induction d with
    | zero =>
      intro i m' hi hm'
      obtain ⟨m', rfl⟩ : ∃ n, m' = n + 1 := ⟨m' - 1, by omega⟩
      rw [g83l0_s, dF (by omega), cond_false, dT (dgs_end (by omega))]; rfl
    | succ d ih =>
      intro i m' hi hm'
      obtain ⟨m', rfl⟩ : ∃ n, m' = n + 1 := ⟨m' - 1, by omega⟩
      have hi' : i < u.length := by omega
      rw [g83l0_s, dT (by omega), cond_true, if_pos (cast_lt hi'), Int.toNat_natCast, Nat.zero_add, if_pos hi', getD_at u 0 hi', g51_o, g52L, wrapS (by omega), ih (i + 1) m' (by omega) (by omega)]
      have e := dgs_drop hi'
      by_cases h1 : Dg u[i]
      · rw [dT h1, Bool.not_true, cond_false]
        by_cases h2 : Dgs (u.drop (i + 1))
        · rw [dT h2, dT (e.2 ⟨h1, h2⟩)]
        · rw [dF h2, dF (fun h => h2 (e.1 h).2)]
      · rw [dF h1, Bool.not_false, cond_true, dT (by omega), dF (fun h => h1 (e.1 h).1)]; rfl
  have := key u.length 0 m (by omega) (by omega)
  simpa using this
/-- What both come to. -/
theorem value_res (n cap : Nat) {u : List Int} (hlen : u.length ≤ 1048576) (hn : 1048576 < n + 7) (q : Bool) {a : Nat} (ha : a < W192) : ∃ (s : Bool) (w : Nat) (x : Int), w < W192 ∧
    (∀ {α : Type} (k : Bool → List Int → Int → Option α), g18 (n + 7) q (limbs 6 a) 0 u.length cap u.length u k = k s (limbs 6 w) x) ∧
    (∀ {α : Type} (k : Bool → List Int → Int → Option α), g21 (n + 7) q (limbs 6 a) 0 u.length cap u.length u k = k s (limbs 6 w) x) := by
  have hs : ∀ {α : Type} (k : Bool → List Int → Int → Option α) (z : Int), q = zs z → limbs 6 a = zl z → z.natAbs < W192 → Dgs u → u.length ≤ 64 → g18 (n + 7) q (limbs 6 a) 0 u.length cap u.length u k = (match runZ u z with | some w => k (zs w) (zl w) 0 | none => k false [0, 0, 0, 0, 0, 0] 3) := by
    intro α k z e1 e2 hz hu h64
    rw [g18_o, e1, e2, g46Z _ hz, digits_loop _ cap hlen hn, dT hu, Bool.and_true, Bool.not_true, cond_false, dF (by omega), cond_false, spec_digits (n + 7) (n + 7) cap hlen hn (by omega) hu _ _ _ _ z hz]
  have hi : ∀ {α : Type} (k : Bool → List Int → Int → Option α) (z : Int), q = zs z → limbs 6 a = zl z → z.natAbs < W192 → Dgs u → u.length ≤ 64 → g21 (n + 7) q (limbs 6 a) 0 u.length cap u.length u k = (match runZ u z with | some w => k (zs w) (zl w) 0 | none => k false [0, 0, 0, 0, 0, 0] 3) := by
    intro α k z e1 e2 hz hu h64
    rw [g21_o, e1, e2, g49Z _ hz, Bool.not_true, cond_false, g50L _ cap hlen hn, dT hu, Bool.not_true, cond_false, dF (by omega), cond_false,
      impl_digits (n + 7) (n + 7) cap hlen hn (by omega) hu _ _ _ (k false [0, 0, 0, 0, 0, 0] 3) (fun c l => rfl) z hz]
    cases runZ u z <;> rfl
  by_cases v1 : (!(q && decide (a = 0))) = true
  · obtain ⟨z, hz, e1, e2⟩ := zed_of ha v1
    by_cases hu : Dgs u
    · by_cases h64 : u.length ≤ 64
      · have hs := fun {α : Type} (k : Bool → List Int → Int → Option α) => hs k z e1 e2 hz hu h64
        have hi := fun {α : Type} (k : Bool → List Int → Int → Option α) => hi k z e1 e2 hz hu h64
        have fit := fun w => runZ_fit u z w hz
        cases hr : runZ u z with
        | none =>
          rw [hr] at hs hi
          exact ⟨false, 0, 3, by decide, fun k => hs k, fun k => hi k⟩
        | some w =>
          rw [hr] at hs hi
          exact ⟨zs w, w.natAbs, 0, fit w hr, fun k => hs k, fun k => hi k⟩
      · refine ⟨false, 0, 2, by decide, fun {α} k => ?_, fun {α} k => ?_⟩
        · rw [g18_o, e1, e2, g46Z _ hz, digits_loop _ cap hlen hn, dT hu, Bool.and_true, Bool.not_true, cond_false, dT (by omega)]; rfl
        · rw [g21_o, e1, e2, g49Z _ hz, Bool.not_true, cond_false, g50L _ cap hlen hn, dT hu, Bool.not_true, cond_false, dT (by omega)]; rfl
    · refine ⟨false, 0, 1, by decide, fun {α} k => ?_, fun {α} k => ?_⟩
      · rw [g18_o, e1, e2, g46Z _ hz, digits_loop _ cap hlen hn, dF hu]; rfl
      · rw [g21_o, e1, e2, g49Z _ hz, Bool.not_true, cond_false, g50L _ cap hlen hn, dF hu]; rfl
  · simp only [Bool.not_eq_true] at v1
    refine ⟨false, 0, 1, by decide, fun {α} k => ?_, fun {α} k => ?_⟩
    · rw [g18_o, g46L _ _ ha, v1, digits_loop _ cap hlen hn]; rfl
    · rw [g21_o, g49L _ _ ha, v1]; rfl
theorem lawValue {α : Type} (n cap : Nat) {u : List Int} (hl : u.length ≤ 9223372036854775807) (hn : 1048576 < n + 7) (q : Bool) {a : Nat} (ha : a < W192) (k : Bool → Option α) :
    g5 (n + 7) q (limbs 6 a) 0 u.length cap u.length u k = k true := by
  rw [g5_o]
  by_cases hu : u.length ≤ 1048576
  · obtain ⟨s, w, x, hw, h1, h2⟩ := value_res n u.length hu hn q ha
    rw [dF (by omega), cond_false, g19L n, g20L _ cap hu hn, h1, g20L _ cap hu hn, g19L n, h2, g22L n, Bool.not_true, cond_false, bne_self_eq_false, cond_false, g20L _ cap hu hn, g23T _ _ _ _ _ hu hn]; rfl
  · rw [dT (by omega), cond_true]
def apV : List AP := [.flat (.vl (.agg [(.one .bool), (.seq (.int .u32) 6)])), .sl (.int .i8)]
theorem lawValueM (n : Nat) (hn : 1048576 < n + 7) (ls : List Lf) (hw : WA apV ls) : g5K (g5 (n + 7)) ls (fun v _ _ => saysTrue v) = some () := by
  obtain ⟨hq, ⟨a1, a2, a3, a4, a5, a6⟩, _⟩ := hw
  obtain ⟨a, ha, e⟩ := limbs_ex hq.2.1.1 hq.2.1.2
  rw [maxLen_eq] at a4
  unfold g5K
  have e0 : (lf ls 2).nat = 0 := a1
  have e1 : (lf ls 3).nat = ((lf ls 6).lst (.int .i8)).length := a5.symm
  have e3 : (lf ls 5).nat = (lf ls 3).nat := a2
  have c1 : (lf ls 3).nat ≤ (lf ls 4).nat := a3
  have c2 : (lf ls 4).nat ≤ 9223372036854775807 := a4
  have e4 : (lf ls 1).lst (.int .u32) = limbs 6 a := e
  rw [e3, e0, e1, e4]
  exact lawValue n _ (by omega) hn _ ha _
theorem lawValue' (ls : List Lf) (hw : WA apV ls) : g5K (g5 1048577) ls (fun v _ _ => saysTrue v) = some () := lawValueM 1048570 (by omega) ls hw
end Go.Proofs.Ytobejeiffgehfaa.Sx
