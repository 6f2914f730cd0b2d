/- Plain laws: numbers in decimal. Our own work. -/
import Derived.Test.YtlmmgjngihlpeaaDoorBase
import Derived.Test.YtlmmgjngihlpeaaDoorSxU
import Derived.Test.YtlmmgjngihlpeaaDoorPureZb
namespace Go.Proofs.YtlmmgjngihlpeaaDoor.Sx
open Go
set_option linter.unusedVariables false
set_option linter.unusedSimpArgs false
set_option maxRecDepth 100000
theorem bytesS_list : ∀ (l : List Int) (s : ByteArray), (l.foldl (fun r n => r.push (UInt8.ofNat n.toNat)) s).data.toList = s.data.toList ++ l.map fun n => UInt8.ofNat n.toNat
  | [], s => by simp
  | a :: l, s => by
    rw [List.foldl_cons, bytesS_list l]
    simp [ByteArray.push]
theorem bytesS_data (l : List Int) : (bytesS l).data.toList = l.map fun n => UInt8.ofNat n.toNat := by
  unfold bytesS
  rw [bytesS_list]; rfl
theorem bytes_ext {a b : ByteArray} (h : a.data.toList = b.data.toList) : a = b := by
  cases a; cases b
  congr 1
  exact Array.ext' h
theorem bytesS_len (l : List Int) : (bytesS l).size = l.length := by
  show (bytesS l).data.size = _
  rw [← Array.length_toList, bytesS_data, List.length_map]
def padL : Nat → Nat → List Int
  | 0, _ => []
  | k + 1, n => padL k (n / 10) ++ [48 + ((n % 10 : Nat) : Int)]
theorem padL_length : ∀ k n, (padL k n).length = k
  | 0, _ => rfl
  | k + 1, n => by simp [padL, padL_length k]
theorem padL_cons : ∀ k n, padL (k + 1) n = (48 + ((n / 10 ^ k % 10 : Nat) : Int)) :: padL k n
  | 0, n => by simp [padL]
  | k + 1, n => by
    show padL (k + 1) (n / 10) ++ [48 + ((n % 10 : Nat) : Int)] = _
    rw [padL_cons k (n / 10), Nat.div_div_eq_div_mul, ← Nat.pow_succ']; rfl
def ndigF : Nat → Nat → Nat
  | 0, _ => 1
  | f + 1, n => if n < 10 then 1 else ndigF f (n / 10) + 1
def ndig (n : Nat) : Nat := ndigF n n
theorem ndigF_eq : ∀ f g n, n ≤ f → n ≤ g → ndigF f n = ndigF g n
  | 0, 0, _, _, _ => rfl
  | 0, g + 1, n, h, _ => by unfold ndigF; rw [if_pos (by omega)]
  | f + 1, 0, n, _, h => by unfold ndigF; rw [if_pos (by omega)]
  | f + 1, g + 1, n, h1, h2 => by
    unfold ndigF
    by_cases h : n < 10
    · rw [if_pos h, if_pos h]
    · rw [if_neg h, if_neg h, ndigF_eq f g (n / 10) (by omega) (by omega)]
theorem ndig_small {n : Nat} (h : n < 10) : ndig n = 1 := by
  unfold ndig
  cases n with
  | zero => rfl
  | succ n => unfold ndigF; rw [if_pos h]
theorem ndig_big {n : Nat} (h : 10 ≤ n) : ndig n = ndig (n / 10) + 1 := by
  unfold ndig
  obtain ⟨f, rfl⟩ : ∃ f, n = f + 1 := ⟨n - 1, by omega⟩
  rw [show ndigF (f + 1) (f + 1) = ndigF f ((f + 1) / 10) + 1 by rw [ndigF, if_neg (by omega)], ndigF_eq f ((f + 1) / 10) _ (by omega) (Nat.le_refl _)]
theorem ndig_spec : ∀ (f n : Nat), n ≤ f → n < 10 ^ ndig n ∧ (0 < n → 10 ^ (ndig n - 1) ≤ n) ∧ 1 ≤ ndig n
  | 0, n, h => by
    obtain rfl : n = 0 := by omega
    exact ⟨by decide, fun h => absurd h (by decide), by decide⟩
  | f + 1, n, h => by
    by_cases h1 : n < 10
    · rw [ndig_small h1]
      exact ⟨by omega, fun _ => by simpa using (by omega : 1 ≤ n), Nat.le_refl _⟩
    · obtain ⟨a1, a2, a3⟩ := ndig_spec f (n / 10) (by omega)
      rw [ndig_big (by omega)]
      refine ⟨?_, fun _ => ?_, by omega⟩
      · rw [Nat.pow_succ]; omega
      · have a2 := a2 (by omega)
        rw [Nat.add_sub_cancel]
        have e : 10 ^ ndig (n / 10) = 10 ^ (ndig (n / 10) - 1) * 10 := by rw [← Nat.pow_succ]; congr 1; omega
        rw [e]; omega
theorem ndig_unique {n k : Nat} (hn : 0 < n) (h1 : n < 10 ^ k) (b2 : 10 ^ (k - 1) ≤ n) : ndig n = k := by
  obtain ⟨a1, a2, a3⟩ := ndig_spec n n (Nat.le_refl _)
  have b1 := a2 hn
  rcases Nat.lt_trichotomy (ndig n) k with h | h | h
  · have := Nat.pow_le_pow_right (show 0 < 10 by decide) (show ndig n ≤ k - 1 by omega)
    omega
  · exact h
  · have := Nat.pow_le_pow_right (show 0 < 10 by decide) (show k ≤ ndig n - 1 by omega)
    omega
def decL (n : Nat) : List Int := padL (ndig n) n
theorem decL_len (n : Nat) : (decL n).length = ndig n := padL_length _ _
theorem ndig_le {n k : Nat} (hk : 1 ≤ k) (h : n < 10 ^ k) : ndig n ≤ k := by
  obtain ⟨a1, a2, a3⟩ := ndig_spec n n (Nat.le_refl _)
  rcases Nat.eq_zero_or_pos n with rfl | hn
  · rw [ndig_small (by decide)]; exact hk
  · have b1 := a2 hn
    rcases Nat.lt_or_ge k (ndig n) with h2 | h2
    · have := Nat.pow_le_pow_right (show 0 < 10 by decide) (show k ≤ ndig n - 1 by omega)
      omega
    · exact h2
theorem tmodN (x y : Nat) : Int.tmod (x : Int) (y : Int) = ((x % y : Nat) : Int) := by rw [Int.tmod_eq_emod_of_nonneg (by omega)]; rfl
theorem tdivN (x y : Nat) : Int.tdiv (x : Int) (y : Int) = ((x / y : Nat) : Int) := by rw [Int.tdiv_eq_ediv_of_nonneg (by omega)]; rfl
theorem wrapB {x : Int} (h1 : 0 ≤ x) (h2 : x < 256) : IntKind.wrap .u8 x = x := by
  unfold IntKind.wrap
  simp [IntKind.signed, IntKind.bits]
  omega
end Go.Proofs.YtlmmgjngihlpeaaDoor.Sx
