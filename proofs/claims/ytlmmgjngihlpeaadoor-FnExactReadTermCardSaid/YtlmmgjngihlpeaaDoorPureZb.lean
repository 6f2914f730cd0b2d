import Derived.Test.YtlmmgjngihlpeaaDoorSxV
import Derived.Test.YtlmmgjngihlpeaaDoorSxQ
namespace Go.Proofs.YtlmmgjngihlpeaaDoor.Sx
open Go
set_option linter.unusedVariables false
set_option linter.unusedSimpArgs false
set_option maxRecDepth 100000
end Go.Proofs.YtlmmgjngihlpeaaDoor.Sx
namespace Go.Proofs.YtlmmgjngihlpeaaDoor.Sx
end Go.Proofs.YtlmmgjngihlpeaaDoor.Sx
namespace Go.Proofs.YtlmmgjngihlpeaaDoor.Sx
end Go.Proofs.YtlmmgjngihlpeaaDoor.Sx
namespace Go.Proofs.YtlmmgjngihlpeaaDoor.Sx
end Go.Proofs.YtlmmgjngihlpeaaDoor.Sx
namespace Go.Proofs.YtlmmgjngihlpeaaDoor.Sx
end Go.Proofs.YtlmmgjngihlpeaaDoor.Sx
namespace Go.Proofs.YtlmmgjngihlpeaaDoor.Sx
def isLen (v b : Nat) : Bool := decide (v < 2 ^ b) && (b == 0 || decide (2 ^ (b - 1) ≤ v))
theorem isLen_iff {v b : Nat} : isLen v b = true ↔ v < 2 ^ b ∧ (b = 0 ∨ 2 ^ (b - 1) ≤ v) := by simp [isLen]
theorem isLen_unique {v b c : Nat} (h : isLen v b = true) (h' : isLen v c = true) : b = c := by
  rw [isLen_iff] at h h'
  obtain ⟨h1, h2⟩ := h
  obtain ⟨h3, h4⟩ := h'
  rcases Nat.lt_trichotomy b c with hlt | rfl | hlt
  · have hp : 2 ^ b ≤ 2 ^ (c - 1) := Nat.pow_le_pow_right (by decide) (by omega)
    omega
  · rfl
  · have hp : 2 ^ c ≤ 2 ^ (b - 1) := Nat.pow_le_pow_right (by decide) (by omega)
    omega
theorem isLen_shift {v b s : Nat} (h : isLen (v / 2 ^ s) b = true) (hb : 0 < b) : isLen v (b + s) = true := by
  rw [isLen_iff] at h ⊢
  obtain ⟨h1, h2⟩ := h
  rcases h2 with h2 | h2
  · omega
  · refine ⟨?_, .inr ?_⟩
    · rw [Nat.pow_add]
      exact (Nat.div_lt_iff_lt_mul (Nat.two_pow_pos s)).1 h1
    · rw [show b + s - 1 = (b - 1) + s by omega, Nat.pow_add]
      exact (Nat.le_div_iff_mul_le (Nat.two_pow_pos s)).1 h2
def tableB : Bool := (List.range 256).all fun x => isLen x ((byteAt strC0 x).toNat) && decide (0 ≤ byteAt strC0 x)
theorem tableOk : tableB = true := by kernel_rfl
theorem table_len {x : Nat} (h : x < 256) : ∃ b : Nat, byteAt strC0 x = (b : Int) ∧ isLen x b = true := by
  have h0 := tableOk
  unfold tableB at h0
  rw [List.all_eq_true] at h0
  have h1 := h0 x (List.mem_range.2 h)
  rw [Bool.and_eq_true, decide_eq_true_eq] at h1
  exact ⟨(byteAt strC0 x).toNat, (Int.toNat_of_nonneg h1.2).symm, h1.1⟩
theorem strC0_size : strC0.size = 256 := by kernel_rfl
theorem isLen_le {x b : Nat} (h : isLen x b = true) {c : Nat} (hx : x < 2 ^ c) : b ≤ c := by
  rw [isLen_iff] at h
  rcases h.2 with h2 | h2
  · omega
  · rcases Nat.lt_or_ge c b with hlt | hge
    · have hp : 2 ^ c ≤ 2 ^ (b - 1) := Nat.pow_le_pow_right (by decide) (by omega)
      omega
    · exact hge
theorem isLen_pos {x b : Nat} (h : isLen x b = true) (hx : 0 < x) : 0 < b := by
  rw [isLen_iff] at h
  rcases Nat.eq_zero_or_pos b with rfl | hb
  · simp at h; omega
  · exact hb
theorem wrapU8 {x : Nat} (h : x < 256) : IntKind.wrap .u8 (x : Int) = x := by
  unfold IntKind.wrap; simp only [IntKind.signed, IntKind.bits]; simp; omega
theorem wrapI64 {x : Int} (h0 : -9223372036854775808 ≤ x) (h1 : x ≤ 9223372036854775807) : IntKind.wrap .i64 x = x := by
  unfold IntKind.wrap; simp only [IntKind.signed, IntKind.bits]; simp; omega
theorem fdivNat (x y : Nat) : Int.fdiv (x : Int) (y : Int) = ((x / y : Nat) : Int) := by
  rw [Int.fdiv_eq_ediv_of_nonneg _ (by omega)]; simp
end Go.Proofs.YtlmmgjngihlpeaaDoor.Sx
namespace Go.Proofs.YtlmmgjngihlpeaaDoor.Sx
def limbs : Nat → Nat → List Int
  | 0, _ => []
  | k + 1, n => ((n % 4294967296 : Nat) : Int) :: limbs k (n / 4294967296)
def val : List Int → Nat
  | [] => 0
  | x :: r => x.toNat + 4294967296 * val r
theorem wrapU32 (x : Nat) : IntKind.wrap .u32 (x : Int) = ((x % 4294967296 : Nat) : Int) := by
  unfold IntKind.wrap; simp only [IntKind.signed, IntKind.bits]; simp
end Go.Proofs.YtlmmgjngihlpeaaDoor.Sx
/- Plain laws: what the functions on sizes compute, as numbers. Our own work. -/
namespace Go.Proofs.YtlmmgjngihlpeaaDoor.Sx
section
variable {α : Type} (n : Nat) {a b : Nat}
end
end Go.Proofs.YtlmmgjngihlpeaaDoor.Sx
/- Plain laws: products. Our own work. -/
namespace Go.Proofs.YtlmmgjngihlpeaaDoor.Sx
end Go.Proofs.YtlmmgjngihlpeaaDoor.Sx
/- Plain laws: bit lengths of numbers; powers; int64 values. Our own work. -/
namespace Go.Proofs.YtlmmgjngihlpeaaDoor.Sx
end Go.Proofs.YtlmmgjngihlpeaaDoor.Sx
/- Plain laws: shifts of sizes. Our own work. -/
namespace Go.Proofs.YtlmmgjngihlpeaaDoor.Sx
end Go.Proofs.YtlmmgjngihlpeaaDoor.Sx
/- Plain laws: shifts of sizes, up (reference) and down. Our own work. -/
namespace Go.Proofs.YtlmmgjngihlpeaaDoor.Sx
end Go.Proofs.YtlmmgjngihlpeaaDoor.Sx
/- Plain laws: ShiftUp and ShiftNear. Our own work. -/
namespace Go.Proofs.YtlmmgjngihlpeaaDoor.Sx
end Go.Proofs.YtlmmgjngihlpeaaDoor.Sx
/- Plain laws: RootWide. Our own work. -/
namespace Go.Proofs.YtlmmgjngihlpeaaDoor.Sx
end Go.Proofs.YtlmmgjngihlpeaaDoor.Sx
/- Plain laws: ReadWide. Our own work. -/
namespace Go.Proofs.YtlmmgjngihlpeaaDoor.Sx
end Go.Proofs.YtlmmgjngihlpeaaDoor.Sx
/- Plain laws: ReadWide, the whole. Our own work. -/
namespace Go.Proofs.YtlmmgjngihlpeaaDoor.Sx
end Go.Proofs.YtlmmgjngihlpeaaDoor.Sx
/- Plain laws: division by a small number; the step of long division (impl). Our own work. -/
namespace Go.Proofs.YtlmmgjngihlpeaaDoor.Sx
end Go.Proofs.YtlmmgjngihlpeaaDoor.Sx
/- Plain laws: the step of long division (impl), the whole. Our own work. -/
namespace Go.Proofs.YtlmmgjngihlpeaaDoor.Sx
def sg (j U i N X : Nat) : List Int := limbs j U ++ (limbs i N ++ limbs (7 - j - i) (X / 4294967296 ^ i))
end Go.Proofs.YtlmmgjngihlpeaaDoor.Sx
/- Plain laws: long division (impl). Our own work. -/
namespace Go.Proofs.YtlmmgjngihlpeaaDoor.Sx
end Go.Proofs.YtlmmgjngihlpeaaDoor.Sx
/- Plain laws: CommonWide, DivWides, DivNear. Our own work. -/
namespace Go.Proofs.YtlmmgjngihlpeaaDoor.Sx
section
variable {α : Type} {m : Nat} {a b : Nat}
end
end Go.Proofs.YtlmmgjngihlpeaaDoor.Sx
/- Plain laws: DivNear. Our own work. -/
namespace Go.Proofs.YtlmmgjngihlpeaaDoor.Sx
end Go.Proofs.YtlmmgjngihlpeaaDoor.Sx
