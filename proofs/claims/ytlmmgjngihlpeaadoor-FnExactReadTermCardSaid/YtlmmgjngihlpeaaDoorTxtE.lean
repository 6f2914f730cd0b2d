/- Plain laws: WideText. Our own work. -/
import Derived.Test.YtlmmgjngihlpeaaDoorTxtD
import Derived.Test.YtlmmgjngihlpeaaDoorZedB
namespace Go.Proofs.YtlmmgjngihlpeaaDoor.Sx
open Go
set_option linter.unusedVariables false
set_option linter.unusedSimpArgs false
set_option maxRecDepth 100000
def smlTab : Bool := (List.range 100).all fun n => (cond (decide (n < 10)) (ByteArray.extract strC1 n (n + 1)) (ByteArray.extract strC2 (n * 2) (n * 2 + 2))).data.toList == (bytesS (decL n)).data.toList
theorem sml_ok {n : Nat} (h : n < 100) : cond (decide (n < 10)) (ByteArray.extract strC1 n (n + 1)) (ByteArray.extract strC2 (n * 2) (n * 2 + 2)) = bytesS (decL n) := by
  have h0 : smlTab = true := by kernel_rfl
  have h1 := (List.all_eq_true.1 h0) n (List.mem_range.2 h)
  exact bytes_ext (by simpa using h1)
theorem strC1_size : strC1.size = 36 := by kernel_rfl
section
variable {α : Type}
theorem small_ok (m : Nat) {n : Nat} (h : n < 100) (k : ByteArray → Option α) : g126 m (n : Int) k = k (bytesS (decL n)) := by
  rw [g126_o]
  dsimp only
  have := sml_ok h
  have s1 := strC1_size
  have s2 := strC2_size
  by_cases h1 : n < 10
  · rw [dT h1, cond_true] at this
    rw [dT (by omega), cond_true, wrapI (by omega) (by omega), if_pos (by omega), show Int.toNat (n : Int) = n by omega, show Int.toNat ((n : Int) + 1) = n + 1 by omega, this]
  · rw [dF h1, cond_false] at this
    rw [dF (by omega), cond_false, wrapI (x := (n : Int) * 2) (by omega) (by omega), wrapI (by omega) (by omega), if_pos (by omega), show Int.toNat ((n : Int) * 2) = n * 2 by omega, show Int.toNat ((n : Int) * 2 + 2) = n * 2 + 2 by omega, this]
theorem fb_all {n nd : Nat} (h : nd ≤ 23) : List.take nd (List.drop 1 (fb (List.replicate 24 0) 1 nd n nd)) = padL nd n := by
  unfold fb
  rw [show 1 + nd - nd = 1 by omega]
  show List.take nd (padL nd n ++ List.drop (1 + nd) (List.replicate 24 0)) = _
  rw [List.take_append_of_le_length (by rw [padL_length]; omega), List.take_of_length_le (by rw [padL_length]; omega)]
theorem fb_allN {n nd : Nat} (h : nd ≤ 23) : List.take (nd + 1) (List.drop 0 (List.set (fb (List.replicate 24 0) 1 nd n nd) 0 45)) = 45 :: padL nd n := by
  unfold fb
  rw [show 1 + nd - nd = 1 by omega]
  show List.take (nd + 1) (45 :: (padL nd n ++ List.drop (1 + nd) (List.replicate 24 0))) = _
  rw [List.take_succ_cons, List.take_append_of_le_length (by rw [padL_length]; omega), List.take_of_length_le (by rw [padL_length]; omega)]
theorem ndig20 {n : Nat} (h : n < 18446744073709551616) : ndig n ≤ 20 := ndig_le (by decide) (by omega)
theorem fmtPos (m : Nat) (hm : 4 ≤ m) {n : Nat} (hn : n < 9223372036854775808) (k : ByteArray → Option α) : g114 m (n : Int) 10 k = k (bytesS (decL n)) := by
  have hd := ndig20 (n := n) (by omega)
  have hlt := (ndig_spec n n (Nat.le_refl _)).1
  rw [g114_o, show ((10 : Int) == 10) = true from rfl, cond_true, dT (by omega), cond_true]
  by_cases h1 : n < 100
  · rw [dT (by omega), cond_true, small_ok m h1]
  · rw [dF (by omega), cond_false]
    dsimp only
    rw [wU64 (by omega), dF (by omega), cond_false, numDig m (by omega) (by omega), wrapI (by omega) (by omega), if_pos (by omega), show Int.toNat ((1 : Int) + (ndig n : Nat)) - 1 = ndig n by omega, fBase (by simp) (by omega) hlt (by omega) m hm, cond_false, if_pos (by omega), if_pos (by omega), fb_all (by omega)]; rfl
theorem fmtNeg (m : Nat) (hm : 4 ≤ m) {n : Nat} (h0 : 0 < n) (hn : n ≤ 9223372036854775808) (k : ByteArray → Option α) : g114 m (-(n : Int)) 10 k = k (bytesS (45 :: decL n)) := by
  have hd := ndig20 (n := n) (by omega)
  have hlt := (ndig_spec n n (Nat.le_refl _)).1
  have e1 : IntKind.wrap .u64 (0 - IntKind.wrap .u64 (-(n : Int))) = (n : Int) := by
    unfold IntKind.wrap
    simp [IntKind.signed, IntKind.bits]
    omega
  rw [g114_o, show ((10 : Int) == 10) = true from rfl, cond_true, dF (by omega), cond_false]
  dsimp only
  rw [dT (by omega), cond_true, e1, numDig m (by omega) (by omega), wrapI (by omega) (by omega), if_pos (by omega), show Int.toNat ((1 : Int) + (ndig n : Nat)) - 1 = ndig n by omega, fBase (by simp) (by omega) hlt (by omega) m hm, cond_true, if_pos (by omega), show Int.toNat ((1 : Int) + (ndig n : Nat)) - 0 = ndig n + 1 by omega, if_pos (by omega), fb_allN (by omega)]; rfl
end
end Go.Proofs.YtlmmgjngihlpeaaDoor.Sx
