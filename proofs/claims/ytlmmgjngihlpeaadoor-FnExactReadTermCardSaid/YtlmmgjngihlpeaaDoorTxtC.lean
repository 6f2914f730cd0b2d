/- Plain laws: the library's text of a number, its digits laid out. Our own work. -/
import Derived.Test.YtlmmgjngihlpeaaDoorTxtB
namespace Go.Proofs.YtlmmgjngihlpeaaDoor.Sx
open Go
set_option linter.unusedVariables false
set_option linter.unusedSimpArgs false
set_option maxRecDepth 100000
theorem w32 {x : Nat} (h : x < 4294967296) : IntKind.wrap .u32 (x : Int) = (x : Int) := by rw [wrapU32, Nat.mod_eq_of_lt h]
theorem wU64 {x : Nat} (h : x < 18446744073709551616) : IntKind.wrap .u64 (x : Int) = (x : Int) := by
  unfold IntKind.wrap
  simp [IntKind.signed, IntKind.bits]
  omega
theorem tm8 (x : Nat) : Int.tmod (x : Int) 100000000 = ((x % 100000000 : Nat) : Int) := tmodN x 100000000
theorem td8 (x : Nat) : Int.tdiv (x : Int) 100000000 = ((x / 100000000 : Nat) : Int) := tdivN x 100000000
theorem tm4 (x : Nat) : Int.tmod (x : Int) 10000 = ((x % 10000 : Nat) : Int) := tmodN x 10000
theorem td4 (x : Nat) : Int.tdiv (x : Int) 10000 = ((x / 10000 : Nat) : Int) := tdivN x 10000
theorem tm2 (x : Nat) : Int.tmod (x : Int) 100 = ((x % 100 : Nat) : Int) := tmodN x 100
theorem td2 (x : Nat) : Int.tdiv (x : Int) 100 = ((x / 100 : Nat) : Int) := tdivN x 100
theorem dbl (y : Nat) : (y : Int) * 2 = ((2 * y : Nat) : Int) := by omega
theorem dbl1 (y : Nat) : ((2 * y : Nat) : Int) + 1 = ((2 * y + 1 : Nat) : Int) := by omega
section
variable {l : List Int} {off nd u cap : Nat} {α : Type} {K : Int → Int → List Int → Option α}
theorem fb_step (hl : l.length = 24) (ho : off + nd ≤ 24) {j : Nat} (hj : j + 8 ≤ nd) (hv : u / 10 ^ j < 18446744073709551616) (F : Nat) :
    g128l0 off nd cap K (F + 1) ((u / 10 ^ j : Nat) : Int) ((nd - j : Nat) : Int) (fb l off nd u j) =
      g128l0 off nd cap K F ((u / 10 ^ (j + 8) : Nat) : Int) ((nd - (j + 8) : Nat) : Int) (fb l off nd u (j + 8)) := by
  have hlo : off + nd ≤ l.length := by omega
  have q : ∀ i, u / 10 ^ (j + i) = u / 10 ^ j / 10 ^ i := fun i => by rw [Nat.pow_add, ← Nat.div_div_eq_div_mul]
  rw [g128l0_s, dT (by omega), cond_true]
  rw [q 8]
  have q0 : u / 10 ^ j = u / 10 ^ j := rfl
  generalize hvv : u / 10 ^ j = v at *
  extract_lets x1 x2 x3 x4 x5 x6 x7 i1 i2 z1 i3 i4 z2 i5 i6 z3 i7 i8 z4
  have e1 : x1 = ((v % 100000000 : Nat) : Int) := by
    show IntKind.wrap .u32 (Int.tmod (v : Int) 100000000) = _
    rw [tm8, w32 (by omega)]
  clear_value x1
  subst e1
  have e2 : x2 = ((v % 100000000 / 10000 : Nat) : Int) := by
    show IntKind.wrap .u32 (Int.tdiv ((v % 100000000 : Nat) : Int) 10000) = _
    rw [td4, w32 (by omega)]
  have e3 : x3 = ((v % 100000000 % 10000 : Nat) : Int) := tm4 _
  clear_value x2 x3
  subst e2; subst e3
  have f0 : v % 100000000 % 10000 % 100 % 10 = v % 10 := by omega
  have f1 : v % 100000000 % 10000 % 100 / 10 = v / 10 % 10 := by omega
  have f2 : v % 100000000 % 10000 / 100 % 10 = v / 100 % 10 := by omega
  have f3 : v % 100000000 % 10000 / 100 / 10 = v / 1000 % 10 := by omega
  have f4 : v % 100000000 / 10000 % 100 % 10 = v / 10000 % 10 := by omega
  have f5 : v % 100000000 / 10000 % 100 / 10 = v / 100000 % 10 := by omega
  have f6 : v % 100000000 / 10000 / 100 % 10 = v / 1000000 % 10 := by omega
  have f7 : v % 100000000 / 10000 / 100 / 10 = v / 10000000 % 10 := by omega
  have hb : v % 100000000 / 10000 < 10000 := by omega
  have hc : v % 100000000 % 10000 < 10000 := by omega
  have e4 : x4 = ((2 * (v % 100000000 % 10000 / 100) : Nat) : Int) := by
    show IntKind.wrap .u32 (IntKind.wrap .u32 (Int.tdiv ((v % 100000000 % 10000 : Nat) : Int) 100) * 2) = _
    rw [td2, w32 (by omega), dbl, w32 (by omega)]
  have e5 : x5 = ((2 * (v % 100000000 % 10000 % 100) : Nat) : Int) := by
    show IntKind.wrap .u32 (Int.tmod ((v % 100000000 % 10000 : Nat) : Int) 100 * 2) = _
    rw [tm2, dbl, w32 (by omega)]
  have e6 : x6 = ((2 * (v % 100000000 / 10000 / 100) : Nat) : Int) := by
    show IntKind.wrap .u32 (IntKind.wrap .u32 (Int.tdiv ((v % 100000000 / 10000 : Nat) : Int) 100) * 2) = _
    rw [td2, w32 (by omega), dbl, w32 (by omega)]
  have e7 : x7 = ((2 * (v % 100000000 / 10000 % 100) : Nat) : Int) := by
    show IntKind.wrap .u32 (Int.tmod ((v % 100000000 / 10000 : Nat) : Int) 100 * 2) = _
    rw [tm2, dbl, w32 (by omega)]
  clear_value x4 x5 x6 x7
  have c1 : v % 100000000 % 10000 / 100 < 100 := by omega
  have c2 : v % 100000000 % 10000 % 100 < 100 := by omega
  have b1 : v % 100000000 / 10000 / 100 < 100 := by omega
  have b2 : v % 100000000 / 10000 % 100 < 100 := by omega
  generalize v % 100000000 % 10000 / 100 = y1 at *
  generalize v % 100000000 % 10000 % 100 = y0 at *
  generalize v % 100000000 / 10000 / 100 = y3 at *
  generalize v % 100000000 / 10000 % 100 = y2 at *
  subst e4; subst e5; subst e6; subst e7
  have g1 : i1 = ((nd - j : Nat) : Int) - 1 := wrapI (by omega) (by omega)
  have g2 : i2 = ((nd - j : Nat) : Int) - 2 := wrapI (by omega) (by omega)
  have h1 : z1 = ((2 * y0 + 1 : Nat) : Int) := by
    show IntKind.wrap .u32 (((2 * y0 : Nat) : Int) + 1) = _
    rw [dbl1, w32 (by omega)]
  clear_value i1 i2 z1
  subst g1; subst g2; subst h1
  have sz := strC2_size
  rw [if_pos (by omega), if_pos (by omega), if_pos (by omega), if_pos (by omega), if_pos (by omega), if_pos (by omega)]
  have g3 : i3 = ((nd - j : Nat) : Int) - 3 := wrapI (by omega) (by omega)
  have g4 : i4 = ((nd - j : Nat) : Int) - 4 := wrapI (by omega) (by omega)
  have h2 : z2 = ((2 * y1 + 1 : Nat) : Int) := by
    show IntKind.wrap .u32 (((2 * y1 : Nat) : Int) + 1) = _
    rw [dbl1, w32 (by omega)]
  clear_value i3 i4 z2
  subst g3; subst g4; subst h2
  rw [if_pos (by omega), if_pos (by omega), if_pos (by omega), if_pos (by omega), if_pos (by omega), if_pos (by omega)]
  have g5 : i5 = ((nd - j : Nat) : Int) - 5 := wrapI (by omega) (by omega)
  have g6 : i6 = ((nd - j : Nat) : Int) - 6 := wrapI (by omega) (by omega)
  have h3 : z3 = ((2 * y2 + 1 : Nat) : Int) := by
    show IntKind.wrap .u32 (((2 * y2 : Nat) : Int) + 1) = _
    rw [dbl1, w32 (by omega)]
  clear_value i5 i6 z3
  subst g5; subst g6; subst h3
  rw [if_pos (by omega), if_pos (by omega), if_pos (by omega), if_pos (by omega), if_pos (by omega), if_pos (by omega)]
  have g7 : i7 = ((nd - j : Nat) : Int) - 7 := wrapI (by omega) (by omega)
  have g8 : i8 = ((nd - j : Nat) : Int) - 8 := wrapI (by omega) (by omega)
  have h4 : z4 = ((2 * y3 + 1 : Nat) : Int) := by
    show IntKind.wrap .u32 (((2 * y3 : Nat) : Int) + 1) = _
    rw [dbl1, w32 (by omega)]
  clear_value i7 i8 z4
  subst g7; subst g8; subst h4
  rw [if_pos (by omega), if_pos (by omega), if_pos (by omega), if_pos (by omega), if_pos (by omega), if_pos (by omega)]
  simp only [Int.toNat_natCast]
  rw [(sm_ok c2).2, (sm_ok c2).1, (sm_ok c1).2, (sm_ok c1).1, (sm_ok b2).2, (sm_ok b2).1, (sm_ok b1).2, (sm_ok b1).1]
  rw [fb_set hlo (j := j) (by omega) (by omega) (by rw [hvv, f0]), fb_set hlo (j := j + 1) (by omega) (by omega) (by rw [q 1, f1]), fb_set hlo (j := j + 1 + 1) (by omega) (by omega) (by rw [show j + 1 + 1 = j + 2 from rfl, q 2, f2]),
    fb_set hlo (j := j + 1 + 1 + 1) (by omega) (by omega) (by rw [show j + 1 + 1 + 1 = j + 3 from rfl, q 3, f3]), fb_set hlo (j := j + 1 + 1 + 1 + 1) (by omega) (by omega) (by rw [show j + 1 + 1 + 1 + 1 = j + 4 from rfl, q 4, f4]),
    fb_set hlo (j := j + 1 + 1 + 1 + 1 + 1) (by omega) (by omega) (by rw [show j + 1 + 1 + 1 + 1 + 1 = j + 5 from rfl, q 5, f5]), fb_set hlo (j := j + 1 + 1 + 1 + 1 + 1 + 1) (by omega) (by omega) (by rw [show j + 1 + 1 + 1 + 1 + 1 + 1 = j + 6 from rfl, q 6, f6]),
    fb_set hlo (j := j + 1 + 1 + 1 + 1 + 1 + 1 + 1) (by omega) (by omega) (by rw [show j + 1 + 1 + 1 + 1 + 1 + 1 + 1 = j + 7 from rfl, q 7, f7])]
  rw [td8, wU64 (by omega), wrapI (by omega) (by omega), show ((nd - j : Nat) : Int) - 8 = ((nd - (j + 8) : Nat) : Int) by omega]
end
end Go.Proofs.YtlmmgjngihlpeaaDoor.Sx
