/- Plain laws: what is drawn from bytes. Our own work. -/
import Derived.Test.YtlmmgjngihlpeaaZedD
namespace Go.Proofs.Ytlmmgjngihlpeaa.Sx
open Go
set_option linter.unusedVariables false
set_option linter.unusedSimpArgs false
set_option maxRecDepth 100000
/-- Bytes. -/
def Byt (u : List Int) : Prop := ∀ x ∈ u, 0 ≤ x ∧ x ≤ 255
theorem byt_at {u : List Int} (h : Byt u) (i : Nat) : 0 ≤ List.getD u i 0 ∧ List.getD u i 0 ≤ 255 := by
  by_cases hi : i < u.length
  · rw [getD_at u 0 hi]; exact h _ (List.getElem_mem hi)
  · rw [List.getD_eq_getElem?_getD, List.getElem?_eq_none (by omega)]; decide
theorem lit_u8 {x : Int} (h : (Lit.int .u8 x).wf = true) : 0 ≤ x ∧ x ≤ 255 := by
  have : decide (IntKind.u8.min ≤ x ∧ x ≤ IntKind.u8.max) = true := by simpa [Lit.wf] using h
  simpa [IntKind.min, IntKind.max, IntKind.bits, IntKind.signed] using this
theorem and255 (x : Nat) : ibits .and .u64 (x : Int) 255 = ((x % 18446744073709551616 % 256 : Nat) : Int) := by
  have hx : ∀ y : Nat, y < 256 → IntKind.wrap .u64 (y : Int) = (y : Int) := fun y hy => by rw [wrapU64N, Nat.mod_eq_of_lt (by omega)]
  show IntKind.wrap .u64 ((BitVec.ofInt 64 (x : Int) &&& BitVec.ofInt 64 ((255 : Nat) : Int)).toNat : Int) = _
  have e : ∀ y : Nat, y &&& 255 = y % 256 := fun y => Nat.and_two_pow_sub_one_eq_mod y 8
  rw [BitVec.toNat_and, ofInt_nat, ofInt_nat, Nat.mod_eq_of_lt (show 255 < 2 ^ 64 by decide), e, hx _ (Nat.mod_lt _ (by decide))]
theorem wrapU64_nat (x : Int) : ∃ y : Nat, IntKind.wrap .u64 x = (y : Int) := by
  have e : IntKind.wrap .u64 x = x % 18446744073709551616 := by simp [IntKind.wrap, IntKind.bits, IntKind.signed]
  exact ⟨(x % 18446744073709551616).toNat, by rw [e]; omega⟩
theorem low_byte (x : Int) : ∃ y : Int, 0 ≤ y ∧ y ≤ 255 ∧ IntKind.wrap .i64 (ibits .and .u64 (Int.fdiv (IntKind.wrap .u64 x) (2 ^ 40)) 255) = y := by
  obtain ⟨y, hy⟩ := wrapU64_nat x
  rw [hy, show (2 : Int) ^ 40 = ((1099511627776 : Nat) : Int) from rfl, fdivNat, and255]
  generalize y / 1099511627776 % 18446744073709551616 = z
  have : z % 256 < 256 := Nat.mod_lt _ (by decide)
  exact ⟨((z % 256 : Nat) : Int), by omega, by omega, by rw [wrapI64 (by omega) (by omega)]⟩
theorem next_res (m cap : Nat) {u : List Int} (hu : Byt u) {at' : Nat} (ha : at' ≤ 1000000000) (s : Int) : ∃ x s' : Int, 0 ≤ x ∧ x ≤ 255 ∧
    ∀ {α : Type} (k : Int → Int → Int → Option α), g106 m 0 u.length cap (at' : Int) s u.length u k = k x ((at' + 1 : Nat) : Int) s' := by
  by_cases h : at' < u.length
  · obtain ⟨b1, b2⟩ := byt_at hu at'
    obtain ⟨y, y1, y2, y3⟩ := low_byte ((IntKind.wrap .u64 ((IntKind.wrap .u64 (s * 6364136223846793005)) + (IntKind.wrap .u64 (List.getD u at' 0)))) + 1442695040888963407)
    refine ⟨List.getD u at' 0, IntKind.wrap .u64 ((IntKind.wrap .u64 ((IntKind.wrap .u64 (s * 6364136223846793005)) + (IntKind.wrap .u64 (List.getD u at' 0)))) + 1442695040888963407), b1, b2, fun {α} k => ?_⟩
    rw [g106_o, dT (by omega), cond_true, if_pos (cast_lt h), Int.toNat_natCast, Nat.zero_add, if_pos h]
    dsimp only
    rw [wrapI (x := List.getD u at' 0) (by omega) (by omega), wrapS (by omega), dT (by omega), cond_true]
  · obtain ⟨y, y1, y2, y3⟩ := low_byte ((IntKind.wrap .u64 ((IntKind.wrap .u64 (s * 6364136223846793005)) + 0)) + 1442695040888963407)
    refine ⟨y, IntKind.wrap .u64 ((IntKind.wrap .u64 ((IntKind.wrap .u64 (s * 6364136223846793005)) + 0)) + 1442695040888963407), y1, y2, fun {α} k => ?_⟩
    rw [g106_o, dF (by omega), cond_false]
    dsimp only
    rw [wrapS (by omega), dF (by omega), cond_false, y3]
theorem pick_res (m cap : Nat) {u : List Int} (hu : Byt u) {at' : Nat} (ha : at' + 2 ≤ 1000000000) (s n : Int) (hn : n ≤ 1000000) : ∃ (x s' : Int) (b : Nat), 0 ≤ x ∧ (1 < n → x < n) ∧ (n ≤ 1 → x = 0) ∧ at' ≤ b ∧ b ≤ at' + 2 ∧
    ∀ {α : Type} (k : Int → Int → Int → Option α), g67 m n 0 u.length cap (at' : Int) s u.length u k = k x (b : Int) s' := by
  by_cases h1 : n ≤ 1
  · exact ⟨0, s, at', by omega, fun h => by omega, fun _ => rfl, by omega, by omega, fun {α} k => by rw [g67_o, dT h1, cond_true]⟩
  · obtain ⟨x, s1, x1, x2, hx⟩ := next_res m cap hu (show at' ≤ 1000000000 by omega) s
    by_cases h2 : n > 200
    · obtain ⟨y, s2, y1, y2, hy⟩ := next_res m cap hu (show at' + 1 ≤ 1000000000 by omega) s1
      have e : IntKind.wrap .i64 (IntKind.wrap .i64 (x * 256) + y) = x * 256 + y := by rw [wrapI (x := x * 256) (by omega) (by omega), wrapI (by omega) (by omega)]
      refine ⟨(x * 256 + y) % n, s2, at' + 2, Int.emod_nonneg _ (by omega), fun h => Int.emod_lt_of_pos _ (by omega), fun h => by omega, by omega, by omega, fun {α} k => ?_⟩
      rw [g67_o, dF h1, cond_false, hx, dT h2, cond_true, hy, e, if_neg (by omega), Int.tmod_eq_emod_of_nonneg (by omega)]
    · refine ⟨x % n, s1, at' + 1, Int.emod_nonneg _ (by omega), fun h => Int.emod_lt_of_pos _ (by omega), fun h => by omega, by omega, by omega, fun {α} k => ?_⟩
      rw [g67_o, dF h1, cond_false, hx, dF h2, cond_false, if_neg (by omega), Int.tmod_eq_emod_of_nonneg (by omega)]
theorem P6Pick_res (m cap : Nat) {u : List Int} (hu : Byt u) (n : Int) (hn : n ≤ 1000000) : ∃ x : Int, 0 ≤ x ∧ (1 < n → x < n) ∧ (n ≤ 1 → x = 0) ∧
    ∀ {α : Type} (k : Int → Option α), g22 m 0 u.length cap n u.length u k = k x := by
  obtain ⟨x, s, b, h1, h2, h3, _, _, h⟩ := pick_res m cap hu (at' := 0) (by omega) 0 n hn
  exact ⟨x, h1, h2, h3, fun {α} k => by rw [g22_o, g51_o]; exact h _⟩
theorem u32_wrap (x : Int) : ∃ y : Nat, y < 4294967296 ∧ IntKind.wrap .u32 x = (y : Int) := by
  have e : IntKind.wrap .u32 x = x % 4294967296 := by simp [IntKind.wrap, IntKind.bits, IntKind.signed]
  exact ⟨(x % 4294967296).toNat, by omega, by rw [e]; omega⟩
theorem u32_set {l : List Int} (h : U32 l) (i : Nat) (x : Int) (hx : ∃ y : Nat, y < 4294967296 ∧ x = (y : Int)) : U32 (l.set i x) := by
  obtain ⟨y, hy, rfl⟩ := hx
  intro z hz
  rcases List.mem_or_eq_of_mem_set hz with h' | h'
  · exact h z h'
  · rw [h']; exact wf_u32 hy
theorem drawn_loop (q cap : Nat) {u : List Int} (hu : Byt u) (w : Int) (hw : w ≤ 6) (c : Bool) (z : List Int) : ∀ (d v m at' : Nat) (s : Int) (l : List Int), v + d = 6 → d < m → at' + 4 * d + 8 ≤ 1000000 → l.length = 6 → U32 l →
    ∃ (b : Nat) (s' : Int) (l' : List Int), b ≤ at' + 4 * d ∧ l'.length = 6 ∧ U32 l' ∧ ∀ {α : Type} (k : Int → Int → List Int → Option α),
      g50l0 (g67 q) w 0 u.length cap u.length u c z k m (v : Int) (at' : Int) s l = k (b : Int) s' l' := by
  intro d
  induction d with
  | zero =>
    intro v m at' s l hv hm ha hl hL
    obtain ⟨m, rfl⟩ : ∃ n, m = n + 1 := ⟨m - 1, by omega⟩
    exact ⟨at', s, l, by omega, hl, hL, fun {α} k => by rw [g50l0_s, dF (by omega), cond_false]⟩
  | succ d ih =>
    intro v m at' s l hv hm ha hl hL
    obtain ⟨m, rfl⟩ : ∃ n, m = n + 1 := ⟨m - 1, by omega⟩
    by_cases hvw : (v : Int) < w
    · have hv6 : v < 6 := by omega
      obtain ⟨x, s1, b1, p1, p2, p3, p4, p5, hx⟩ := pick_res q cap hu (at' := at') (by omega) s 4 (by omega)
      by_cases x0 : x = 0
      · obtain ⟨y, s2, b2, q1, q2, q3, q4, q5, hy⟩ := pick_res q cap hu (at' := b1) (by omega) s1 60000 (by omega)
        obtain ⟨b, s', l', r1, r2, r3, hr⟩ := ih (v + 1) m b2 s2 (l.set v (IntKind.wrap .u32 ((IntKind.wrap .u32 y) * 65521))) (by omega) (by omega) (by omega) (by rw [List.length_set]; exact hl) (u32_set hL _ _ (u32_wrap _))
        refine ⟨b, s', l', by omega, r2, r3, fun {α} k => ?_⟩
        rw [g50l0_s, dT hvw, cond_true, hx, x0, beq_self_eq_true, cond_true, hy, if_pos (cast_lt hv6), Int.toNat_natCast, if_pos hv6, wrapS (by omega), hr]
      · by_cases x1 : x = 1
        · obtain ⟨b, s', l', r1, r2, r3, hr⟩ := ih (v + 1) m b1 s1 (l.set v 4294967295) (by omega) (by omega) (by omega) (by rw [List.length_set]; exact hl) (u32_set hL _ _ ⟨4294967295, by omega, rfl⟩)
          refine ⟨b, s', l', by omega, r2, r3, fun {α} k => ?_⟩
          rw [g50l0_s, dT hvw, cond_true, hx, show (x == 0) = false by simpa using x0, cond_false, x1, beq_self_eq_true, cond_true, if_pos (cast_lt hv6), Int.toNat_natCast, if_pos hv6, wrapS (by omega), hr]
        · by_cases x2 : x = 2
          · obtain ⟨y, s2, b2, q1, q2, q3, q4, q5, hy⟩ := pick_res q cap hu (at' := b1) (by omega) s1 5 (by omega)
            obtain ⟨b, s', l', r1, r2, r3, hr⟩ := ih (v + 1) m b2 s2 (l.set v (IntKind.wrap .u32 y)) (by omega) (by omega) (by omega) (by rw [List.length_set]; exact hl) (u32_set hL _ _ (u32_wrap _))
            refine ⟨b, s', l', by omega, r2, r3, fun {α} k => ?_⟩
            rw [g50l0_s, dT hvw, cond_true, hx, show (x == 0) = false by simpa using x0, cond_false, show (x == 1) = false by simpa using x1, cond_false, x2, beq_self_eq_true, cond_true, hy, if_pos (cast_lt hv6), Int.toNat_natCast, if_pos hv6, wrapS (by omega), hr]
          · obtain ⟨y, s2, b2, q1, q2, q3, q4, q5, hy⟩ := pick_res q cap hu (at' := b1) (by omega) s1 32 (by omega)
            have yw : IntKind.wrap .u64 y = y := by
              have := q2 (by omega)
              rw [wrapU64 q1 (by omega)]
            obtain ⟨b, s', l', r1, r2, r3, hr⟩ := ih (v + 1) m b2 s2 (l.set v (IntKind.wrap .u32 (1 * 2 ^ (min y.toNat 32)))) (by omega) (by omega) (by omega) (by rw [List.length_set]; exact hl) (u32_set hL _ _ (u32_wrap _))
            refine ⟨b, s', l', by omega, r2, r3, fun {α} k => ?_⟩
            rw [g50l0_s, dT hvw, cond_true, hx, show (x == 0) = false by simpa using x0, cond_false, show (x == 1) = false by simpa using x1, cond_false, show (x == 2) = false by simpa using x2, cond_false, hy]
            dsimp only
            rw [yw, if_neg (by omega), if_pos (cast_lt hv6), Int.toNat_natCast, if_pos hv6, wrapS (by omega), hr]
    · exact ⟨at', s, l, by omega, hl, hL, fun {α} k => by rw [g50l0_s, dF hvw, cond_false]⟩
theorem l01Drawn_res (m cap : Nat) (hm : 7 ≤ m) {u : List Int} (hu : Byt u) {at' : Nat} (ha : at' + 200 ≤ 1000000) (s : Int) : ∃ (c : Bool) (a b : Nat) (s' : Int), a < W192 ∧ (!(c && decide (a = 0))) = true ∧ b ≤ at' + 40 ∧
    ∀ {α : Type} (k : Bool → List Int → Int → Int → Option α), g50 m 0 u.length cap (at' : Int) s u.length u k = k c (limbs 6 a) (b : Int) s' := by
  obtain ⟨x, s1, b1, p1, p2, p3, p4, p5, hx⟩ := pick_res m cap hu (at' := at') (by omega) s 7 (by omega)
  have hx6 := p2 (by omega)
  obtain ⟨b, s', l, r1, r2, r3, hr⟩ := drawn_loop m cap hu x (by omega) false [0, 0, 0, 0, 0, 0] 6 0 m b1 s1 [0, 0, 0, 0, 0, 0] (by omega) (by omega) (by omega) rfl (limbs_u32 6 0)
  obtain ⟨a, ha', rfl⟩ := limbs_ex r2 r3
  obtain ⟨y, s2, b2, q1, q2, q3, q4, q5, hy⟩ := pick_res m cap hu (at' := b) (by omega) s' 3 (by omega)
  refine ⟨(y == 0) && !(decide (a = 0)), a, b2, s2, ha', ?_, by omega, fun {α} k => ?_⟩
  · cases (y == 0) <;> by_cases h : a = 0 <;> simp [h]
  · rw [g50_o, hx]
    refine (hr _).trans ?_
    rw [g94_o, hy, g52L m _ ha']
theorem P6Wide_res (m cap : Nat) (hm : 7 ≤ m) {u : List Int} (hu : Byt u) : ∃ z : Int, z.natAbs < W192 ∧ ∀ {α : Type} (k : Bool → List Int → Option α), g11 m 0 u.length cap u.length u k = k (zs z) (zl z) := by
  obtain ⟨c, a, b, s, ha, hv, _, h⟩ := l01Drawn_res m cap hm hu (at' := 0) (by omega) 0
  obtain ⟨z, hz, rfl, ez⟩ := zed_of ha hv
  refine ⟨z, hz, fun {α} k => ?_⟩
  rw [g11_o, g51_o, ← ez]
  exact h _
theorem half_limbs {a : Nat} (ha : a < W192) : [List.getD (limbs 6 a) 0 0, List.getD (limbs 6 a) 1 0, Int.fdiv (List.getD (limbs 6 a) 2 0) (2 ^ 6), 0, 0, 0] = limbs 6 (a % 18446744073709551616 + 18446744073709551616 * (a / 18446744073709551616 % 4294967296 / 64)) := by
  rw [limbs_getD 6 a 0 (by omega), limbs_getD 6 a 1 (by omega), limbs_getD 6 a 2 (by omega), show (2 : Int) ^ 6 = ((64 : Nat) : Int) from rfl, fdivNat]
  simp only [dv, limbs]
  have h1 : a / 18446744073709551616 % 4294967296 / 64 < 67108864 := by omega
  generalize hc : a / 18446744073709551616 % 4294967296 / 64 = c at *
  have e : a / 4294967296 / 4294967296 % 4294967296 / 64 = c := by rw [Nat.div_div_eq_div_mul]; exact hc
  rw [e]
  have z1 : (a % 18446744073709551616 + 18446744073709551616 * c) % 4294967296 = a % 4294967296 := by omega
  have z2 : (a % 18446744073709551616 + 18446744073709551616 * c) / 4294967296 % 4294967296 = a / 4294967296 % 4294967296 := by omega
  have z3 : (a % 18446744073709551616 + 18446744073709551616 * c) / 4294967296 / 4294967296 = c := by omega
  rw [z1, z2, z3, Nat.mod_eq_of_lt (show c < 4294967296 by omega), Nat.div_eq_of_lt (show c < 4294967296 by omega)]
  rfl
theorem P6Half_res (m cap : Nat) (hm : 7 ≤ m) {u : List Int} (hu : Byt u) : ∃ z : Int, z.natAbs < 2 ^ 90 ∧ ∀ {α : Type} (k : Bool → List Int → Option α), g12 m 0 u.length cap u.length u k = k (zs z) (zl z) := by
  obtain ⟨c, a, b, s, ha, hv, _, h⟩ := l01Drawn_res m cap hm hu (at' := 0) (by omega) 0
  have h90 : (2 : Nat) ^ 90 = 18446744073709551616 * 67108864 := by decide
  have hW : 18446744073709551616 * 67108864 < W192 := by decide
  have hv' : a % 18446744073709551616 + 18446744073709551616 * (a / 18446744073709551616 % 4294967296 / 64) < 18446744073709551616 * 67108864 := by omega
  generalize hA : a % 18446744073709551616 + 18446744073709551616 * (a / 18446744073709551616 % 4294967296 / 64) = A at *
  refine ⟨cond c (-(A : Int)) A, ?_, fun {α} k => ?_⟩
  · rw [h90]; cases c <;> simp only [cond_true, cond_false, Int.natAbs_neg, Int.natAbs_natCast] <;> exact hv'
  · rw [g12_o, g51_o]
    refine (h _).trans ?_
    dsimp only
    rw [half_limbs ha, hA, g52L m c (by omega), mk_zs, ← mk_zl c A]
end Go.Proofs.Ytlmmgjngihlpeaa.Sx
