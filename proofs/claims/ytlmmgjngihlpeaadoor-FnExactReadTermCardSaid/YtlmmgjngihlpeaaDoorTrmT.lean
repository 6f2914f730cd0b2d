/- Plain laws: the text of a term. Our own work. -/
import Derived.Test.YtlmmgjngihlpeaaDoorTrmG
namespace Go.Proofs.YtlmmgjngihlpeaaDoor.Sx
open Go
set_option linter.unusedVariables false
set_option linter.unusedSimpArgs false
set_option maxRecDepth 100000
abbrev wordsW : List ByteArray := [(⟨#[]⟩ : ByteArray), (⟨#[114, 97, 116, 105, 111]⟩ : ByteArray), (⟨#[115, 117, 109]⟩ : ByteArray), (⟨#[100, 105, 102, 102]⟩ : ByteArray), (⟨#[112, 114, 111, 100, 117, 99, 116]⟩ : ByteArray), (⟨#[113, 117, 111, 116, 105, 101, 110, 116]⟩ : ByteArray), (⟨#[110, 101, 103]⟩ : ByteArray), (⟨#[97, 98, 115]⟩ : ByteArray), (⟨#[109, 105, 110]⟩ : ByteArray), (⟨#[109, 97, 120]⟩ : ByteArray), (⟨#[114, 111, 111, 116]⟩ : ByteArray), (⟨#[112, 105]⟩ : ByteArray), (⟨#[101, 117, 108, 101, 114]⟩ : ByteArray)]
def wordB (kd : Int) : ByteArray := List.getD wordsW kd.toNat ⟨#[]⟩
def fmtI (n : Int) : ByteArray := bytesS (cond (decide (n < 0)) (45 :: decL n.natAbs) (decL n.natAbs))
theorem fmtI_nat (n : Nat) : fmtI (n : Int) = bytesS (decL n) := by
  unfold fmtI; rw [dF (by omega)]; rfl
theorem fmtI_neg {n : Nat} (h : 0 < n) : fmtI (-(n : Int)) = bytesS (45 :: decL n) := by
  unfold fmtI; rw [dT (by omega), Int.natAbs_neg]; rfl
theorem fmtB {m : Nat} (hm : 4 ≤ m) {α : Type} {n : Int} (h1 : -9223372036854775808 ≤ n) (h2 : n ≤ 9223372036854775807) (k : ByteArray → Option α) : g114 m n 10 k = k (fmtI n) := by
  by_cases h : 0 ≤ n
  · obtain ⟨j, rfl⟩ := Int.eq_ofNat_of_zero_le h
    rw [fmtPos m hm (by omega), fmtI_nat]
  · obtain ⟨j, rfl⟩ : ∃ j : Nat, n = -(j : Int) := ⟨n.natAbs, by omega⟩
    rw [fmtNeg m hm (by omega) (by omega), fmtI_neg (by omega)]
theorem wordsL {α : Type} (m : Nat) (k : List ByteArray → Option α) : g103 m k = k wordsW := rfl
theorem kwL {α : Type} (m : Nat) {kd : Int} (h : 0 ≤ kd ∧ kd < 13) (k : ByteArray → Option α) : g82 m kd k = k (wordB kd) := by
  show (if 0 ≤ kd ∧ kd < ((13 : Nat) : Int) then (if (0 + kd.toNat) < 13 then k (List.getD wordsW (0 + kd.toNat) ⟨#[]⟩) else none) else none) = _
  rw [if_pos (by omega), if_pos (by omega), Nat.zero_add]; rfl
theorem okN_cases {kd a b p q v : Int} (h : OkN kd a b p q v) (hv : v ≤ 2000) : (0 ≤ kd ∧ kd < 13) ∧ -1000000000 ≤ p ∧ p ≤ 1000000000 ∧ 0 ≤ q ∧ q ≤ 1000000000 ∧ 0 ≤ a ∧ a ≤ 2000 ∧ 0 ≤ b ∧ b ≤ 2000 := by
  rcases h with h | h | h | h <;> omega
end Go.Proofs.YtlmmgjngihlpeaaDoor.Sx
