/- Equations that open the functions. Printed by our own sx.py. -/
import Derived.Test.YtlmmgjngihlpeaaDoorSxV
namespace Go.Proofs.YtlmmgjngihlpeaaDoor.Sx
open Go
set_option linter.unusedVariables false
set_option maxRecDepth 100000
set_option linter.unusedVariables false
theorem g126_o {α : Type} (m : Nat) (p25 : Int) (k33 : ByteArray → Option α) : g126 m p25 k33 =
    cond (decide (p25 < (10 : Int)))
     (
      let x27 : Int := IntKind.wrap .i64 (p25 + (1 : Int))
      if 0 ≤ p25 ∧ p25 ≤ x27 ∧ x27 ≤ ((strC1.size : Nat) : Int) then
        k33 (ByteArray.extract strC1 (Int.toNat p25) (Int.toNat x27))
      else
        none)
     (
      let x29 : Int := IntKind.wrap .i64 (p25 * (2 : Int))
      let x31 : Int := IntKind.wrap .i64 ((IntKind.wrap .i64 (p25 * (2 : Int))) + (2 : Int))
      if 0 ≤ x29 ∧ x29 ≤ x31 ∧ x31 ≤ ((strC2.size : Nat) : Int) then
        k33 (ByteArray.extract strC2 (Int.toNat x29) (Int.toNat x31))
      else
        none) := by kernel_rfl
theorem g69l0_s {α : Type} (z39 : ByteArray) (v40 : Int) (k52 : Int → Ty0 → Option α) (m : Nat) (v41 : Int) (v42 : Int) (a43 : Ty0) : g69l0 z39 v40 k52 (m + 1) v41 v42 a43 =
    cond (decide (v42 < ((z39.size : Nat) : Int)))
     (
      if 0 ≤ v42 ∧ v42 < z39.size then
        cond ((byteAt z39 v42.toNat) == v40)
        (
        if 0 ≤ v41 ∧ v41 ≤ v42 ∧ v42 ≤ ((z39.size : Nat) : Int) then
        if a43.length + 1 ≤ 67108864 then
        (g69l0 z39 v40 k52 m) (IntKind.wrap .i64 (v42 + (1 : Int))) (IntKind.wrap .i64 (v42 + (1 : Int))) (a43 ++ [(ByteArray.extract z39 (Int.toNat v41) (Int.toNat v42))])
        else
        none
        else
        none)
        (
        (g69l0 z39 v40 k52 m) v41 (IntKind.wrap .i64 (v42 + (1 : Int))) a43)
      else
        none)
     (
      k52 v41 a43) := by kernel_rfl
theorem g69_o {α : Type} (m : Nat) (z37 : ByteArray) (p38 : Int) (k58 : Ty0 → Option α) : g69 m z37 p38 k58 =
    g69l0 z37 p38
      (fun x54 l55 =>
        if 0 ≤ x54 ∧ x54 ≤ ((z37.size : Nat) : Int) ∧ ((z37.size : Nat) : Int) ≤ ((z37.size : Nat) : Int) then
        if l55.length + 1 ≤ 67108864 then
        k58 (l55 ++ [(ByteArray.extract z37 (Int.toNat x54) (Int.toNat ((z37.size : Nat) : Int)))])
        else
        none
        else
        none)
      m (0 : Int) (0 : Int) [] := by kernel_rfl
theorem g120l0_s {α : Type} (z121 : ByteArray) (k135 : Option α) (k136 : Int → Option α) (m : Nat) (v122 : Int) (v123 : Int) : g120l0 z121 k135 k136 (m + 1) v122 v123 =
    cond (decide (v123 < ((z121.size : Nat) : Int)))
     (
      if 0 ≤ v123 ∧ v123 < z121.size then
        cond (decide ((byteAt z121 v123.toNat) < (48 : Int)))
        (
        k135)
        (
        if 0 ≤ v123 ∧ v123 < z121.size then
        cond (decide ((byteAt z121 v123.toNat) > (57 : Int)))
        (
        k135)
        (
        if 0 ≤ v123 ∧ v123 < z121.size then
        (g120l0 z121 k135 k136 m) (IntKind.wrap .i64 ((IntKind.wrap .i64 ((10 : Int) * v122)) + (IntKind.wrap .i64 (IntKind.wrap .u8 ((byteAt z121 v123.toNat) - (48 : Int)))))) (IntKind.wrap .i64 (v123 + (1 : Int)))
        else
        none)
        else
        none)
      else
        none)
     (
      k136 v122) := by kernel_rfl
theorem g120_o {α : Type} (m : Nat) (z115 : ByteArray) (k140 : Int → Bool → Option α) : g120 m z115 k140 =
    cond (bytesEq z115 (⟨#[]⟩ : ByteArray))
     (
      k140 (0 : Int) false)
     (
      cond (decide (((z115.size : Nat) : Int) > (10 : Int)))
       (
        k140 (0 : Int) false)
       (
        if 0 ≤ (0 : Int) ∧ (0 : Int) < z115.size then
        cond ((byteAt z115 (0 : Int).toNat) == (48 : Int))
        (
        cond (decide (((z115.size : Nat) : Int) > (1 : Int)))
        (
        k140 (0 : Int) false)
        (
        g120l0 z115
        (
        k140 (0 : Int) false)
        (fun x138 =>
        k140 x138 true)
        m (0 : Int) (0 : Int)))
        (
        g120l0 z115
        (
        k140 (0 : Int) false)
        (fun x139 =>
        k140 x139 true)
        m (0 : Int) (0 : Int))
        else
        none)) := by kernel_rfl
theorem g104_o {α : Type} (m : Nat) (z110 : ByteArray) (k149 : Int → Bool → Option α) : g104 m z110 k149 =
    cond (!bytesEq z110 (⟨#[]⟩ : ByteArray))
     (
      if 0 ≤ (0 : Int) ∧ (0 : Int) < z110.size then
        cond ((byteAt z110 (0 : Int).toNat) == (45 : Int))
        (
        if 0 ≤ (1 : Int) ∧ (1 : Int) ≤ ((z110.size : Nat) : Int) ∧ ((z110.size : Nat) : Int) ≤ ((z110.size : Nat) : Int) then
        (g120 m) (ByteArray.extract z110 1 (Int.toNat ((z110.size : Nat) : Int)))
        (fun x141 b142 =>
        let x143 : Int := IntKind.wrap .i64 (0 - x141)
        cond b142
        (
        k149 x143 (decide (x141 > (0 : Int))))
        (
        k149 x143 false))
        else
        none)
        (
        (g120 m) z110
        (fun x145 b146 =>
        k149 x145 b146))
      else
        none)
     (
      (g120 m) z110
        (fun x147 b148 =>
        k149 x147 b148)) := by kernel_rfl
theorem g70l2_s {α : Type} (q : Nat) (v93 : Int) (v94 : Int) (v96 : Int) (v97 : Int) (v98 : Int) (v99 : Int) (v100 : Int) (a101 : Ty0) (v102 : Int) (v103 : Int) (v104 : Int) (v105 : Int) (v106 : Int) (k155 : Option α) (k156 : (List Int) → Option α) (m : Nat) (v95 : Int) (a107 : List Int) : g70l2 (g104 q) v93 v94 v96 v97 v98 v99 v100 a101 v102 v103 v104 v105 v106 k155 k156 (m + 1) v95 a107 =
    cond (decide (v95 < ((a101.length : Nat) : Int)))
     (
      if 0 ≤ v95 ∧ v95 < (a101.length : Nat) then
        if v95.toNat < a101.length then
        (g104 q) (List.getD a101 v95.toNat ⟨#[]⟩)
        (fun x150 b151 =>
        cond (!b151)
        (
        k155)
        (
        if a107.length + 1 ≤ 67108864 then
        (g70l2 (g104 q) v93 v94 v96 v97 v98 v99 v100 a101 v102 v103 v104 v105 v106 k155 k156 m) (IntKind.wrap .i64 (v95 + (1 : Int))) (a107 ++ [x150])
        else
        none))
        else
        none
      else
        none)
     (
      k156 a107) := by kernel_rfl
theorem g70l0_s {α : Type} (q : Nat) (v76 : Int) (m77 : Nat) (m78 : Nat) (m79 : Nat) (v81 : Int) (v82 : Int) (v83 : Int) (v84 : Int) (v85 : Int) (a86 : Ty0) (a87 : Ty0) (k389 : Bool → Int → Int → Int → Int → Int → Option α) (k390 : Option α) (m : Nat) (v80 : Int) : g70l0 (g104 q) (g77 q) (g105 q) (g76 q) (g106 q) (g70l2M q) v76 m77 m78 m79 v81 v82 v83 v84 v85 a86 a87 k389 k390 (m + 1) v80 =
    cond (decide (v80 ≤ (12 : Int)))
     (
      if 0 ≤ (0 : Int) ∧ (0 : Int) < (a86.length : Nat) then
        if 0 < a86.length then
        if 0 ≤ v80 ∧ v80 < (m78 : Nat) then
        if (m77 + v80.toNat) < 13 then
        cond (!bytesEq (List.getD a86 0 ⟨#[]⟩) (List.getD a87 (m77 + v80.toNat) ⟨#[]⟩))
        (
        (g70l0 (g104 q) (g77 q) (g105 q) (g76 q) (g106 q) (g70l2M q) v76 m77 m78 m79 v81 v82 v83 v84 v85 a86 a87 k389 k390 m) (IntKind.wrap .i8 (v80 + (1 : Int))))
        (
        g70l2 (g104 q) v76 v80 v81 v82 v83 v84 v85 a86 v80 (0 : Int) (0 : Int) (0 : Int) (0 : Int)
        (
        k389 false (0 : Int) (0 : Int) (0 : Int) (0 : Int) (0 : Int))
        (fun l158 =>
        cond (v80 == (1 : Int))
        (
        cond (((l158.length : Nat) : Int) == (2 : Int))
        (
        if 0 ≤ (0 : Int) ∧ (0 : Int) < (l158.length : Nat) then
        if 0 < l158.length then
        let x161 : Int := List.getD l158 0 0
        if 0 ≤ (1 : Int) ∧ (1 : Int) < (l158.length : Nat) then
        if 1 < l158.length then
        let x162 : Int := List.getD l158 1 0
        (g77 q) v76 v80 (0 : Int) (0 : Int) x161 x162
        (fun b222 =>
        k389 b222 v80 (0 : Int) (0 : Int) x161 x162)
        else
        none
        else
        none
        else
        none
        else
        none)
        (
        (g105 q) v80
        (fun b223 =>
        cond b223
        (
        cond (((l158.length : Nat) : Int) == (1 : Int))
        (
        if 0 ≤ (0 : Int) ∧ (0 : Int) < (l158.length : Nat) then
        if 0 < l158.length then
        (g76 q) (List.getD l158 0 0) (0 : Int) (IntKind.wrap .i64 (v76 - (1 : Int)))
        (fun b227 =>
        cond b227
        (
        if 0 ≤ (0 : Int) ∧ (0 : Int) < (l158.length : Nat) then
        if 0 < l158.length then
        let x229 : Int := IntKind.wrap .i16 (List.getD l158 0 0)
        (g77 q) v76 v80 x229 (0 : Int) (0 : Int) (0 : Int)
        (fun b230 =>
        k389 b230 v80 x229 (0 : Int) (0 : Int) (0 : Int))
        else
        none
        else
        none)
        (
        (g106 q) v80
        (fun b231 =>
        cond b231
        (
        cond (((l158.length : Nat) : Int) == (2 : Int))
        (
        if 0 ≤ (0 : Int) ∧ (0 : Int) < (l158.length : Nat) then
        if 0 < l158.length then
        (g76 q) (List.getD l158 0 0) (0 : Int) (IntKind.wrap .i64 (v76 - (1 : Int)))
        (fun b235 =>
        cond b235
        (
        if 0 ≤ (1 : Int) ∧ (1 : Int) < (l158.length : Nat) then
        if 1 < l158.length then
        (g76 q) (List.getD l158 1 0) (0 : Int) (IntKind.wrap .i64 (v76 - (1 : Int)))
        (fun b238 =>
        cond b238
        (
        if 0 ≤ (0 : Int) ∧ (0 : Int) < (l158.length : Nat) then
        if 0 < l158.length then
        let x240 : Int := IntKind.wrap .i16 (List.getD l158 0 0)
        if 0 ≤ (1 : Int) ∧ (1 : Int) < (l158.length : Nat) then
        if 1 < l158.length then
        let x242 : Int := IntKind.wrap .i16 (List.getD l158 1 0)
        (g77 q) v76 v80 x240 x242 (0 : Int) (0 : Int)
        (fun b243 =>
        k389 b243 v80 x240 x242 (0 : Int) (0 : Int))
        else
        none
        else
        none
        else
        none
        else
        none)
        (
        cond (decide (v80 < (11 : Int)))
        (
        k389 false (0 : Int) (0 : Int) (0 : Int) (0 : Int) (0 : Int))
        (
        cond (decide (((l158.length : Nat) : Int) > (0 : Int)))
        (
        k389 false (0 : Int) (0 : Int) (0 : Int) (0 : Int) (0 : Int))
        (
        (g77 q) v76 v80 (0 : Int) (0 : Int) (0 : Int) (0 : Int)
        (fun b246 =>
        k389 b246 v80 (0 : Int) (0 : Int) (0 : Int) (0 : Int))))))
        else
        none
        else
        none)
        (
        cond (decide (v80 < (11 : Int)))
        (
        k389 false (0 : Int) (0 : Int) (0 : Int) (0 : Int) (0 : Int))
        (
        cond (decide (((l158.length : Nat) : Int) > (0 : Int)))
        (
        k389 false (0 : Int) (0 : Int) (0 : Int) (0 : Int) (0 : Int))
        (
        (g77 q) v76 v80 (0 : Int) (0 : Int) (0 : Int) (0 : Int)
        (fun b249 =>
        k389 b249 v80 (0 : Int) (0 : Int) (0 : Int) (0 : Int))))))
        else
        none
        else
        none)
        (
        cond (decide (v80 < (11 : Int)))
        (
        k389 false (0 : Int) (0 : Int) (0 : Int) (0 : Int) (0 : Int))
        (
        cond (decide (((l158.length : Nat) : Int) > (0 : Int)))
        (
        k389 false (0 : Int) (0 : Int) (0 : Int) (0 : Int) (0 : Int))
        (
        (g77 q) v76 v80 (0 : Int) (0 : Int) (0 : Int) (0 : Int)
        (fun b252 =>
        k389 b252 v80 (0 : Int) (0 : Int) (0 : Int) (0 : Int))))))
        (
        cond (decide (v80 < (11 : Int)))
        (
        k389 false (0 : Int) (0 : Int) (0 : Int) (0 : Int) (0 : Int))
        (
        cond (decide (((l158.length : Nat) : Int) > (0 : Int)))
        (
        k389 false (0 : Int) (0 : Int) (0 : Int) (0 : Int) (0 : Int))
        (
        (g77 q) v76 v80 (0 : Int) (0 : Int) (0 : Int) (0 : Int)
        (fun b255 =>
        k389 b255 v80 (0 : Int) (0 : Int) (0 : Int) (0 : Int))))))))
        else
        none
        else
        none)
        (
        (g106 q) v80
        (fun b256 =>
        cond b256
        (
        cond (((l158.length : Nat) : Int) == (2 : Int))
        (
        if 0 ≤ (0 : Int) ∧ (0 : Int) < (l158.length : Nat) then
        if 0 < l158.length then
        (g76 q) (List.getD l158 0 0) (0 : Int) (IntKind.wrap .i64 (v76 - (1 : Int)))
        (fun b260 =>
        cond b260
        (
        if 0 ≤ (1 : Int) ∧ (1 : Int) < (l158.length : Nat) then
        if 1 < l158.length then
        (g76 q) (List.getD l158 1 0) (0 : Int) (IntKind.wrap .i64 (v76 - (1 : Int)))
        (fun b263 =>
        cond b263
        (
        if 0 ≤ (0 : Int) ∧ (0 : Int) < (l158.length : Nat) then
        if 0 < l158.length then
        let x265 : Int := IntKind.wrap .i16 (List.getD l158 0 0)
        if 0 ≤ (1 : Int) ∧ (1 : Int) < (l158.length : Nat) then
        if 1 < l158.length then
        let x267 : Int := IntKind.wrap .i16 (List.getD l158 1 0)
        (g77 q) v76 v80 x265 x267 (0 : Int) (0 : Int)
        (fun b268 =>
        k389 b268 v80 x265 x267 (0 : Int) (0 : Int))
        else
        none
        else
        none
        else
        none
        else
        none)
        (
        cond (decide (v80 < (11 : Int)))
        (
        k389 false (0 : Int) (0 : Int) (0 : Int) (0 : Int) (0 : Int))
        (
        cond (decide (((l158.length : Nat) : Int) > (0 : Int)))
        (
        k389 false (0 : Int) (0 : Int) (0 : Int) (0 : Int) (0 : Int))
        (
        (g77 q) v76 v80 (0 : Int) (0 : Int) (0 : Int) (0 : Int)
        (fun b271 =>
        k389 b271 v80 (0 : Int) (0 : Int) (0 : Int) (0 : Int))))))
        else
        none
        else
        none)
        (
        cond (decide (v80 < (11 : Int)))
        (
        k389 false (0 : Int) (0 : Int) (0 : Int) (0 : Int) (0 : Int))
        (
        cond (decide (((l158.length : Nat) : Int) > (0 : Int)))
        (
        k389 false (0 : Int) (0 : Int) (0 : Int) (0 : Int) (0 : Int))
        (
        (g77 q) v76 v80 (0 : Int) (0 : Int) (0 : Int) (0 : Int)
        (fun b274 =>
        k389 b274 v80 (0 : Int) (0 : Int) (0 : Int) (0 : Int))))))
        else
        none
        else
        none)
        (
        cond (decide (v80 < (11 : Int)))
        (
        k389 false (0 : Int) (0 : Int) (0 : Int) (0 : Int) (0 : Int))
        (
        cond (decide (((l158.length : Nat) : Int) > (0 : Int)))
        (
        k389 false (0 : Int) (0 : Int) (0 : Int) (0 : Int) (0 : Int))
        (
        (g77 q) v76 v80 (0 : Int) (0 : Int) (0 : Int) (0 : Int)
        (fun b277 =>
        k389 b277 v80 (0 : Int) (0 : Int) (0 : Int) (0 : Int))))))
        (
        cond (decide (v80 < (11 : Int)))
        (
        k389 false (0 : Int) (0 : Int) (0 : Int) (0 : Int) (0 : Int))
        (
        cond (decide (((l158.length : Nat) : Int) > (0 : Int)))
        (
        k389 false (0 : Int) (0 : Int) (0 : Int) (0 : Int) (0 : Int))
        (
        (g77 q) v76 v80 (0 : Int) (0 : Int) (0 : Int) (0 : Int)
        (fun b280 =>
        k389 b280 v80 (0 : Int) (0 : Int) (0 : Int) (0 : Int))))))))
        (
        (g106 q) v80
        (fun b281 =>
        cond b281
        (
        cond (((l158.length : Nat) : Int) == (2 : Int))
        (
        if 0 ≤ (0 : Int) ∧ (0 : Int) < (l158.length : Nat) then
        if 0 < l158.length then
        (g76 q) (List.getD l158 0 0) (0 : Int) (IntKind.wrap .i64 (v76 - (1 : Int)))
        (fun b285 =>
        cond b285
        (
        if 0 ≤ (1 : Int) ∧ (1 : Int) < (l158.length : Nat) then
        if 1 < l158.length then
        (g76 q) (List.getD l158 1 0) (0 : Int) (IntKind.wrap .i64 (v76 - (1 : Int)))
        (fun b288 =>
        cond b288
        (
        if 0 ≤ (0 : Int) ∧ (0 : Int) < (l158.length : Nat) then
        if 0 < l158.length then
        let x290 : Int := IntKind.wrap .i16 (List.getD l158 0 0)
        if 0 ≤ (1 : Int) ∧ (1 : Int) < (l158.length : Nat) then
        if 1 < l158.length then
        let x292 : Int := IntKind.wrap .i16 (List.getD l158 1 0)
        (g77 q) v76 v80 x290 x292 (0 : Int) (0 : Int)
        (fun b293 =>
        k389 b293 v80 x290 x292 (0 : Int) (0 : Int))
        else
        none
        else
        none
        else
        none
        else
        none)
        (
        cond (decide (v80 < (11 : Int)))
        (
        k389 false (0 : Int) (0 : Int) (0 : Int) (0 : Int) (0 : Int))
        (
        cond (decide (((l158.length : Nat) : Int) > (0 : Int)))
        (
        k389 false (0 : Int) (0 : Int) (0 : Int) (0 : Int) (0 : Int))
        (
        (g77 q) v76 v80 (0 : Int) (0 : Int) (0 : Int) (0 : Int)
        (fun b296 =>
        k389 b296 v80 (0 : Int) (0 : Int) (0 : Int) (0 : Int))))))
        else
        none
        else
        none)
        (
        cond (decide (v80 < (11 : Int)))
        (
        k389 false (0 : Int) (0 : Int) (0 : Int) (0 : Int) (0 : Int))
        (
        cond (decide (((l158.length : Nat) : Int) > (0 : Int)))
        (
        k389 false (0 : Int) (0 : Int) (0 : Int) (0 : Int) (0 : Int))
        (
        (g77 q) v76 v80 (0 : Int) (0 : Int) (0 : Int) (0 : Int)
        (fun b299 =>
        k389 b299 v80 (0 : Int) (0 : Int) (0 : Int) (0 : Int))))))
        else
        none
        else
        none)
        (
        cond (decide (v80 < (11 : Int)))
        (
        k389 false (0 : Int) (0 : Int) (0 : Int) (0 : Int) (0 : Int))
        (
        cond (decide (((l158.length : Nat) : Int) > (0 : Int)))
        (
        k389 false (0 : Int) (0 : Int) (0 : Int) (0 : Int) (0 : Int))
        (
        (g77 q) v76 v80 (0 : Int) (0 : Int) (0 : Int) (0 : Int)
        (fun b302 =>
        k389 b302 v80 (0 : Int) (0 : Int) (0 : Int) (0 : Int))))))
        (
        cond (decide (v80 < (11 : Int)))
        (
        k389 false (0 : Int) (0 : Int) (0 : Int) (0 : Int) (0 : Int))
        (
        cond (decide (((l158.length : Nat) : Int) > (0 : Int)))
        (
        k389 false (0 : Int) (0 : Int) (0 : Int) (0 : Int) (0 : Int))
        (
        (g77 q) v76 v80 (0 : Int) (0 : Int) (0 : Int) (0 : Int)
        (fun b305 =>
        k389 b305 v80 (0 : Int) (0 : Int) (0 : Int) (0 : Int))))))))))
        (
        (g105 q) v80
        (fun b306 =>
        cond b306
        (
        cond (((l158.length : Nat) : Int) == (1 : Int))
        (
        if 0 ≤ (0 : Int) ∧ (0 : Int) < (l158.length : Nat) then
        if 0 < l158.length then
        (g76 q) (List.getD l158 0 0) (0 : Int) (IntKind.wrap .i64 (v76 - (1 : Int)))
        (fun b310 =>
        cond b310
        (
        if 0 ≤ (0 : Int) ∧ (0 : Int) < (l158.length : Nat) then
        if 0 < l158.length then
        let x312 : Int := IntKind.wrap .i16 (List.getD l158 0 0)
        (g77 q) v76 v80 x312 (0 : Int) (0 : Int) (0 : Int)
        (fun b313 =>
        k389 b313 v80 x312 (0 : Int) (0 : Int) (0 : Int))
        else
        none
        else
        none)
        (
        (g106 q) v80
        (fun b314 =>
        cond b314
        (
        cond (((l158.length : Nat) : Int) == (2 : Int))
        (
        if 0 ≤ (0 : Int) ∧ (0 : Int) < (l158.length : Nat) then
        if 0 < l158.length then
        (g76 q) (List.getD l158 0 0) (0 : Int) (IntKind.wrap .i64 (v76 - (1 : Int)))
        (fun b318 =>
        cond b318
        (
        if 0 ≤ (1 : Int) ∧ (1 : Int) < (l158.length : Nat) then
        if 1 < l158.length then
        (g76 q) (List.getD l158 1 0) (0 : Int) (IntKind.wrap .i64 (v76 - (1 : Int)))
        (fun b321 =>
        cond b321
        (
        if 0 ≤ (0 : Int) ∧ (0 : Int) < (l158.length : Nat) then
        if 0 < l158.length then
        let x323 : Int := IntKind.wrap .i16 (List.getD l158 0 0)
        if 0 ≤ (1 : Int) ∧ (1 : Int) < (l158.length : Nat) then
        if 1 < l158.length then
        let x325 : Int := IntKind.wrap .i16 (List.getD l158 1 0)
        (g77 q) v76 v80 x323 x325 (0 : Int) (0 : Int)
        (fun b326 =>
        k389 b326 v80 x323 x325 (0 : Int) (0 : Int))
        else
        none
        else
        none
        else
        none
        else
        none)
        (
        cond (decide (v80 < (11 : Int)))
        (
        k389 false (0 : Int) (0 : Int) (0 : Int) (0 : Int) (0 : Int))
        (
        cond (decide (((l158.length : Nat) : Int) > (0 : Int)))
        (
        k389 false (0 : Int) (0 : Int) (0 : Int) (0 : Int) (0 : Int))
        (
        (g77 q) v76 v80 (0 : Int) (0 : Int) (0 : Int) (0 : Int)
        (fun b329 =>
        k389 b329 v80 (0 : Int) (0 : Int) (0 : Int) (0 : Int))))))
        else
        none
        else
        none)
        (
        cond (decide (v80 < (11 : Int)))
        (
        k389 false (0 : Int) (0 : Int) (0 : Int) (0 : Int) (0 : Int))
        (
        cond (decide (((l158.length : Nat) : Int) > (0 : Int)))
        (
        k389 false (0 : Int) (0 : Int) (0 : Int) (0 : Int) (0 : Int))
        (
        (g77 q) v76 v80 (0 : Int) (0 : Int) (0 : Int) (0 : Int)
        (fun b332 =>
        k389 b332 v80 (0 : Int) (0 : Int) (0 : Int) (0 : Int))))))
        else
        none
        else
        none)
        (
        cond (decide (v80 < (11 : Int)))
        (
        k389 false (0 : Int) (0 : Int) (0 : Int) (0 : Int) (0 : Int))
        (
        cond (decide (((l158.length : Nat) : Int) > (0 : Int)))
        (
        k389 false (0 : Int) (0 : Int) (0 : Int) (0 : Int) (0 : Int))
        (
        (g77 q) v76 v80 (0 : Int) (0 : Int) (0 : Int) (0 : Int)
        (fun b335 =>
        k389 b335 v80 (0 : Int) (0 : Int) (0 : Int) (0 : Int))))))
        (
        cond (decide (v80 < (11 : Int)))
        (
        k389 false (0 : Int) (0 : Int) (0 : Int) (0 : Int) (0 : Int))
        (
        cond (decide (((l158.length : Nat) : Int) > (0 : Int)))
        (
        k389 false (0 : Int) (0 : Int) (0 : Int) (0 : Int) (0 : Int))
        (
        (g77 q) v76 v80 (0 : Int) (0 : Int) (0 : Int) (0 : Int)
        (fun b338 =>
        k389 b338 v80 (0 : Int) (0 : Int) (0 : Int) (0 : Int))))))))
        else
        none
        else
        none)
        (
        (g106 q) v80
        (fun b339 =>
        cond b339
        (
        cond (((l158.length : Nat) : Int) == (2 : Int))
        (
        if 0 ≤ (0 : Int) ∧ (0 : Int) < (l158.length : Nat) then
        if 0 < l158.length then
        (g76 q) (List.getD l158 0 0) (0 : Int) (IntKind.wrap .i64 (v76 - (1 : Int)))
        (fun b343 =>
        cond b343
        (
        if 0 ≤ (1 : Int) ∧ (1 : Int) < (l158.length : Nat) then
        if 1 < l158.length then
        (g76 q) (List.getD l158 1 0) (0 : Int) (IntKind.wrap .i64 (v76 - (1 : Int)))
        (fun b346 =>
        cond b346
        (
        if 0 ≤ (0 : Int) ∧ (0 : Int) < (l158.length : Nat) then
        if 0 < l158.length then
        let x348 : Int := IntKind.wrap .i16 (List.getD l158 0 0)
        if 0 ≤ (1 : Int) ∧ (1 : Int) < (l158.length : Nat) then
        if 1 < l158.length then
        let x350 : Int := IntKind.wrap .i16 (List.getD l158 1 0)
        (g77 q) v76 v80 x348 x350 (0 : Int) (0 : Int)
        (fun b351 =>
        k389 b351 v80 x348 x350 (0 : Int) (0 : Int))
        else
        none
        else
        none
        else
        none
        else
        none)
        (
        cond (decide (v80 < (11 : Int)))
        (
        k389 false (0 : Int) (0 : Int) (0 : Int) (0 : Int) (0 : Int))
        (
        cond (decide (((l158.length : Nat) : Int) > (0 : Int)))
        (
        k389 false (0 : Int) (0 : Int) (0 : Int) (0 : Int) (0 : Int))
        (
        (g77 q) v76 v80 (0 : Int) (0 : Int) (0 : Int) (0 : Int)
        (fun b354 =>
        k389 b354 v80 (0 : Int) (0 : Int) (0 : Int) (0 : Int))))))
        else
        none
        else
        none)
        (
        cond (decide (v80 < (11 : Int)))
        (
        k389 false (0 : Int) (0 : Int) (0 : Int) (0 : Int) (0 : Int))
        (
        cond (decide (((l158.length : Nat) : Int) > (0 : Int)))
        (
        k389 false (0 : Int) (0 : Int) (0 : Int) (0 : Int) (0 : Int))
        (
        (g77 q) v76 v80 (0 : Int) (0 : Int) (0 : Int) (0 : Int)
        (fun b357 =>
        k389 b357 v80 (0 : Int) (0 : Int) (0 : Int) (0 : Int))))))
        else
        none
        else
        none)
        (
        cond (decide (v80 < (11 : Int)))
        (
        k389 false (0 : Int) (0 : Int) (0 : Int) (0 : Int) (0 : Int))
        (
        cond (decide (((l158.length : Nat) : Int) > (0 : Int)))
        (
        k389 false (0 : Int) (0 : Int) (0 : Int) (0 : Int) (0 : Int))
        (
        (g77 q) v76 v80 (0 : Int) (0 : Int) (0 : Int) (0 : Int)
        (fun b360 =>
        k389 b360 v80 (0 : Int) (0 : Int) (0 : Int) (0 : Int))))))
        (
        cond (decide (v80 < (11 : Int)))
        (
        k389 false (0 : Int) (0 : Int) (0 : Int) (0 : Int) (0 : Int))
        (
        cond (decide (((l158.length : Nat) : Int) > (0 : Int)))
        (
        k389 false (0 : Int) (0 : Int) (0 : Int) (0 : Int) (0 : Int))
        (
        (g77 q) v76 v80 (0 : Int) (0 : Int) (0 : Int) (0 : Int)
        (fun b363 =>
        k389 b363 v80 (0 : Int) (0 : Int) (0 : Int) (0 : Int))))))))
        (
        (g106 q) v80
        (fun b364 =>
        cond b364
        (
        cond (((l158.length : Nat) : Int) == (2 : Int))
        (
        if 0 ≤ (0 : Int) ∧ (0 : Int) < (l158.length : Nat) then
        if 0 < l158.length then
        (g76 q) (List.getD l158 0 0) (0 : Int) (IntKind.wrap .i64 (v76 - (1 : Int)))
        (fun b368 =>
        cond b368
        (
        if 0 ≤ (1 : Int) ∧ (1 : Int) < (l158.length : Nat) then
        if 1 < l158.length then
        (g76 q) (List.getD l158 1 0) (0 : Int) (IntKind.wrap .i64 (v76 - (1 : Int)))
        (fun b371 =>
        cond b371
        (
        if 0 ≤ (0 : Int) ∧ (0 : Int) < (l158.length : Nat) then
        if 0 < l158.length then
        let x373 : Int := IntKind.wrap .i16 (List.getD l158 0 0)
        if 0 ≤ (1 : Int) ∧ (1 : Int) < (l158.length : Nat) then
        if 1 < l158.length then
        let x375 : Int := IntKind.wrap .i16 (List.getD l158 1 0)
        (g77 q) v76 v80 x373 x375 (0 : Int) (0 : Int)
        (fun b376 =>
        k389 b376 v80 x373 x375 (0 : Int) (0 : Int))
        else
        none
        else
        none
        else
        none
        else
        none)
        (
        cond (decide (v80 < (11 : Int)))
        (
        k389 false (0 : Int) (0 : Int) (0 : Int) (0 : Int) (0 : Int))
        (
        cond (decide (((l158.length : Nat) : Int) > (0 : Int)))
        (
        k389 false (0 : Int) (0 : Int) (0 : Int) (0 : Int) (0 : Int))
        (
        (g77 q) v76 v80 (0 : Int) (0 : Int) (0 : Int) (0 : Int)
        (fun b379 =>
        k389 b379 v80 (0 : Int) (0 : Int) (0 : Int) (0 : Int))))))
        else
        none
        else
        none)
        (
        cond (decide (v80 < (11 : Int)))
        (
        k389 false (0 : Int) (0 : Int) (0 : Int) (0 : Int) (0 : Int))
        (
        cond (decide (((l158.length : Nat) : Int) > (0 : Int)))
        (
        k389 false (0 : Int) (0 : Int) (0 : Int) (0 : Int) (0 : Int))
        (
        (g77 q) v76 v80 (0 : Int) (0 : Int) (0 : Int) (0 : Int)
        (fun b382 =>
        k389 b382 v80 (0 : Int) (0 : Int) (0 : Int) (0 : Int))))))
        else
        none
        else
        none)
        (
        cond (decide (v80 < (11 : Int)))
        (
        k389 false (0 : Int) (0 : Int) (0 : Int) (0 : Int) (0 : Int))
        (
        cond (decide (((l158.length : Nat) : Int) > (0 : Int)))
        (
        k389 false (0 : Int) (0 : Int) (0 : Int) (0 : Int) (0 : Int))
        (
        (g77 q) v76 v80 (0 : Int) (0 : Int) (0 : Int) (0 : Int)
        (fun b385 =>
        k389 b385 v80 (0 : Int) (0 : Int) (0 : Int) (0 : Int))))))
        (
        cond (decide (v80 < (11 : Int)))
        (
        k389 false (0 : Int) (0 : Int) (0 : Int) (0 : Int) (0 : Int))
        (
        cond (decide (((l158.length : Nat) : Int) > (0 : Int)))
        (
        k389 false (0 : Int) (0 : Int) (0 : Int) (0 : Int) (0 : Int))
        (
        (g77 q) v76 v80 (0 : Int) (0 : Int) (0 : Int) (0 : Int)
        (fun b388 =>
        k389 b388 v80 (0 : Int) (0 : Int) (0 : Int) (0 : Int))))))))))
        q (1 : Int) [])
        else
        none
        else
        none
        else
        none
      else
        none)
     (
      k390) := by kernel_rfl
theorem g70_o {α : Type} (m : Nat) (z71 : ByteArray) (p72 : Int) (k398 : Int → Int → Int → Int → Int → Bool → Option α) : g70 m z71 p72 k398 =
    (g69 m) z71 (32 : Int)
      (fun l73 =>
        (g103 m)
        (fun l75 =>
        g70l0 (g104 m) (g77 m) (g105 m) (g76 m) (g106 m) (g70l2M m) p72 0 13 13 (0 : Int) (0 : Int) (0 : Int) (0 : Int) (0 : Int) l73 l75
        (fun b392 x393 x394 x395 x396 x397 =>
        k398 x393 x394 x395 x396 x397 b392)
        (
        k398 (0 : Int) (0 : Int) (0 : Int) (0 : Int) (0 : Int) false)
        m (1 : Int))) := by kernel_rfl
theorem g33l0_s {α : Type} (q : Nat) (v64 : Int) (a66 : Ty0) (k408 : Ty1 → Option α) (k409 : Ty1 → Option α) (m : Nat) (v65 : Int) (a67 : Ty1) : g33l0 (g70 q) v64 a66 k408 k409 (m + 1) v65 a67 =
    cond (decide (v65 < (IntKind.wrap .i64 (v64 - (1 : Int)))))
     (
      if 0 ≤ v65 ∧ v65 < (a66.length : Nat) then
        if v65.toNat < a66.length then
        (g70 q) (List.getD a66 v65.toNat ⟨#[]⟩) v65
        (fun x399 x400 x401 x402 x403 b404 =>
        cond (!b404)
        (
        k408 [])
        (
        if a67.length + 1 ≤ 67108864 then
        (g33l0 (g70 q) v64 a66 k408 k409 m) (IntKind.wrap .i64 (v65 + (1 : Int))) (a67 ++ [[x399, x400, x401, x402, x403]])
        else
        none))
        else
        none
      else
        none)
     (
      k409 a67) := by kernel_rfl
theorem g33_o {α : Type} (m : Nat) (z36 : ByteArray) (k488 : Int → Ty1 → Option α) : g33 m z36 k488 =
    (g69 m) z36 (10 : Int)
      (fun l59 =>
        cond (decide (((l59.length : Nat) : Int) > (41 : Int)))
        (
        k488 (5 : Int) [])
        (
        let x61 : Int := IntKind.wrap .i64 (((l59.length : Nat) : Int) - (1 : Int))
        if 0 ≤ x61 ∧ x61 < (l59.length : Nat) then
        if x61.toNat < l59.length then
        cond (!bytesEq (List.getD l59 x61.toNat ⟨#[]⟩) (⟨#[]⟩ : ByteArray))
        (
        k488 (5 : Int) [])
        (
        g33l0 (g70 m) ((l59.length : Nat) : Int) l59
        (fun l411 =>
        k488 (5 : Int) l411)
        (fun l412 =>
        (g37 m) l412
        (fun b486 =>
        cond (!b486)
        (
        k488 (5 : Int) [])
        (
        k488 (0 : Int) l412)))
        m (0 : Int) [])
        else
        none
        else
        none)) := by kernel_rfl
theorem g71_o {α : Type} (m : Nat) (z492 : ByteArray) (p493 : Int) (k512 : Bool → Option α) (k513 : Nat → Nat → Nat → Ty0 → Option α) : g71 m z492 p493 k512 k513 =
    cond (bytesEq z492 (⟨#[]⟩ : ByteArray))
     (
      k512 true)
     (
      let x495 : Int := IntKind.wrap .i64 (((z492.size : Nat) : Int) - (1 : Int))
      if 0 ≤ x495 ∧ x495 < z492.size then
        cond ((byteAt z492 x495.toNat) != (10 : Int))
        (
        k512 false)
        (
        (g107 m) z492 (⟨#[10]⟩ : ByteArray)
        (fun x501 =>
        cond (decide (x501 > p493))
        (
        k512 false)
        (
        let x503 : Int := IntKind.wrap .i64 (((z492.size : Nat) : Int) - (1 : Int))
        if 0 ≤ (0 : Int) ∧ (0 : Int) ≤ x503 ∧ x503 ≤ ((z492.size : Nat) : Int) then
        (g73 m) (ByteArray.extract z492 0 (Int.toNat x503)) (⟨#[10]⟩ : ByteArray)
        (fun n508 n509 n510 l511 =>
        k513 n508 n509 n510 l511)
        else
        none)))
      else
        none) := by kernel_rfl
theorem g108l0_s {α : Type} (q : Nat) (z613 : ByteArray) (k622 : Int → Option α) (k623 : Option α) (m : Nat) (v614 : Int) : g108l0 (g82 q) z613 k622 k623 (m + 1) v614 =
    cond (decide (v614 ≤ (12 : Int)))
     (
      (g82 q) v614
        (fun s619 =>
        cond (bytesEq s619 z613)
        (
        k622 v614)
        (
        (g108l0 (g82 q) z613 k622 k623 m) (IntKind.wrap .i8 (v614 + (1 : Int))))))
     (
      k623) := by kernel_rfl
theorem g108_o {α : Type} (m : Nat) (z612 : ByteArray) (k626 : Int → Option α) : g108 m z612 k626 =
    g108l0 (g82 m) z612
      (fun x625 =>
        k626 x625)
      (
        k626 (0 : Int))
      m (1 : Int) := by kernel_rfl
theorem g136_o {α : Type} (m : Nat) (p653 : Int) (k700 : Int → Option α) : g136 m p653 k700 =
    cond (decide (p653 ≥ (4294967296 : Int)))
     (
      let x655 : Int := Int.fdiv p653 (2 ^ 32)
      cond (decide (x655 ≥ (65536 : Int)))
       (
        let x657 : Int := Int.fdiv x655 (2 ^ 16)
        cond (decide (x657 ≥ (256 : Int)))
        (
        let x660 : Int := IntKind.wrap .u8 (Int.fdiv x657 (2 ^ 8))
        if 0 ≤ x660 ∧ x660 < strC0.size then
        k700 (IntKind.wrap .i64 ((56 : Int) + (IntKind.wrap .i64 (byteAt strC0 x660.toNat))))
        else
        none)
        (
        let x664 : Int := IntKind.wrap .u8 x657
        if 0 ≤ x664 ∧ x664 < strC0.size then
        k700 (IntKind.wrap .i64 ((48 : Int) + (IntKind.wrap .i64 (byteAt strC0 x664.toNat))))
        else
        none))
       (
        cond (decide (x655 ≥ (256 : Int)))
        (
        let x670 : Int := IntKind.wrap .u8 (Int.fdiv x655 (2 ^ 8))
        if 0 ≤ x670 ∧ x670 < strC0.size then
        k700 (IntKind.wrap .i64 ((40 : Int) + (IntKind.wrap .i64 (byteAt strC0 x670.toNat))))
        else
        none)
        (
        let x674 : Int := IntKind.wrap .u8 x655
        if 0 ≤ x674 ∧ x674 < strC0.size then
        k700 (IntKind.wrap .i64 ((32 : Int) + (IntKind.wrap .i64 (byteAt strC0 x674.toNat))))
        else
        none)))
     (
      cond (decide (p653 ≥ (65536 : Int)))
       (
        let x679 : Int := Int.fdiv p653 (2 ^ 16)
        cond (decide (x679 ≥ (256 : Int)))
        (
        let x682 : Int := IntKind.wrap .u8 (Int.fdiv x679 (2 ^ 8))
        if 0 ≤ x682 ∧ x682 < strC0.size then
        k700 (IntKind.wrap .i64 ((24 : Int) + (IntKind.wrap .i64 (byteAt strC0 x682.toNat))))
        else
        none)
        (
        let x686 : Int := IntKind.wrap .u8 x679
        if 0 ≤ x686 ∧ x686 < strC0.size then
        k700 (IntKind.wrap .i64 ((16 : Int) + (IntKind.wrap .i64 (byteAt strC0 x686.toNat))))
        else
        none))
       (
        cond (decide (p653 ≥ (256 : Int)))
        (
        let x692 : Int := IntKind.wrap .u8 (Int.fdiv p653 (2 ^ 8))
        if 0 ≤ x692 ∧ x692 < strC0.size then
        k700 (IntKind.wrap .i64 ((8 : Int) + (IntKind.wrap .i64 (byteAt strC0 x692.toNat))))
        else
        none)
        (
        let x696 : Int := IntKind.wrap .u8 p653
        if 0 ≤ x696 ∧ x696 < strC0.size then
        k700 (IntKind.wrap .i64 ((0 : Int) + (IntKind.wrap .i64 (byteAt strC0 x696.toNat))))
        else
        none))) := by kernel_rfl
theorem g135_o {α : Type} (m : Nat) (p702 : Int) (k705 : Int → Option α) : g135 m p702 k705 =
    k705 (Int.fdiv (IntKind.wrap .i64 (p702 * (78913 : Int))) (2 ^ 18)) := by kernel_rfl
theorem g137_o {α : Type} (m : Nat) (q709 : Bool) (k710 : Int → Option α) : g137 m q709 k710 =
    cond q709
     (
      k710 (1 : Int))
     (
      k710 (0 : Int)) := by kernel_rfl
theorem g127_o {α : Type} (m : Nat) (p652 : Int) (k713 : Int → Option α) : g127 m p652 k713 =
    (g136 m) p652
      (fun x701 =>
        (g135 m) x701
        (fun x706 =>
        if 0 ≤ x706 ∧ x706 < (20 : Nat) then
        if x706.toNat < pow10L.length then
        (g137 m) (decide (p652 ≥ (List.getD pow10L (x706.toNat) 0)))
        (fun x711 =>
        k713 (IntKind.wrap .i64 (x706 + x711)))
        else
        none
        else
        none)) := by kernel_rfl
theorem g128l0_s {α : Type} (m722 : Nat) (m723 : Nat) (m724 : Nat) (k771 : Int → Int → (List Int) → Option α) (m : Nat) (v725 : Int) (v726 : Int) (a727 : List Int) : g128l0 m722 m723 m724 k771 (m + 1) v725 v726 a727 =
    cond (decide (v726 ≥ (8 : Int)))
     (
      let x730 : Int := IntKind.wrap .u32 (Int.tmod v725 (100000000 : Int))
      let x732 : Int := IntKind.wrap .u32 (Int.tdiv x730 (10000 : Int))
      let x733 : Int := Int.tmod x730 (10000 : Int)
      let x735 : Int := IntKind.wrap .u32 ((IntKind.wrap .u32 (Int.tdiv x733 (100 : Int))) * (2 : Int))
      let x737 : Int := IntKind.wrap .u32 ((Int.tmod x733 (100 : Int)) * (2 : Int))
      let x739 : Int := IntKind.wrap .u32 ((IntKind.wrap .u32 (Int.tdiv x732 (100 : Int))) * (2 : Int))
      let x741 : Int := IntKind.wrap .u32 ((Int.tmod x732 (100 : Int)) * (2 : Int))
      let x742 : Int := IntKind.wrap .i64 (v726 - (1 : Int))
      let x743 : Int := IntKind.wrap .i64 (v726 - (2 : Int))
      let x744 : Int := IntKind.wrap .u32 (x737 + (1 : Int))
      if 0 ≤ x744 ∧ x744 < strC2.size then
        if 0 ≤ x737 ∧ x737 < strC2.size then
        if 0 ≤ x742 ∧ x742 < (m723 : Nat) then
        if (m722 + x742.toNat) < 24 then
        if 0 ≤ x743 ∧ x743 < (m723 : Nat) then
        if (m722 + x743.toNat) < 24 then
        let x749 : Int := IntKind.wrap .i64 (v726 - (3 : Int))
        let x750 : Int := IntKind.wrap .i64 (v726 - (4 : Int))
        let x751 : Int := IntKind.wrap .u32 (x735 + (1 : Int))
        if 0 ≤ x751 ∧ x751 < strC2.size then
        if 0 ≤ x735 ∧ x735 < strC2.size then
        if 0 ≤ x749 ∧ x749 < (m723 : Nat) then
        if (m722 + x749.toNat) < 24 then
        if 0 ≤ x750 ∧ x750 < (m723 : Nat) then
        if (m722 + x750.toNat) < 24 then
        let x756 : Int := IntKind.wrap .i64 (v726 - (5 : Int))
        let x757 : Int := IntKind.wrap .i64 (v726 - (6 : Int))
        let x758 : Int := IntKind.wrap .u32 (x741 + (1 : Int))
        if 0 ≤ x758 ∧ x758 < strC2.size then
        if 0 ≤ x741 ∧ x741 < strC2.size then
        if 0 ≤ x756 ∧ x756 < (m723 : Nat) then
        if (m722 + x756.toNat) < 24 then
        if 0 ≤ x757 ∧ x757 < (m723 : Nat) then
        if (m722 + x757.toNat) < 24 then
        let x763 : Int := IntKind.wrap .i64 (v726 - (7 : Int))
        let x764 : Int := IntKind.wrap .i64 (v726 - (8 : Int))
        let x765 : Int := IntKind.wrap .u32 (x739 + (1 : Int))
        if 0 ≤ x765 ∧ x765 < strC2.size then
        if 0 ≤ x739 ∧ x739 < strC2.size then
        if 0 ≤ x763 ∧ x763 < (m723 : Nat) then
        if (m722 + x763.toNat) < 24 then
        if 0 ≤ x764 ∧ x764 < (m723 : Nat) then
        if (m722 + x764.toNat) < 24 then
        (g128l0 m722 m723 m724 k771 m) (IntKind.wrap .u64 (Int.tdiv v725 (100000000 : Int))) (IntKind.wrap .i64 (v726 - (8 : Int))) (List.set (List.set (List.set (List.set (List.set (List.set (List.set (List.set a727 (m722 + x742.toNat) (byteAt strC2 x744.toNat)) (m722 + x743.toNat) (byteAt strC2 x737.toNat)) (m722 + x749.toNat) (byteAt strC2 x751.toNat)) (m722 + x750.toNat) (byteAt strC2 x735.toNat)) (m722 + x756.toNat) (byteAt strC2 x758.toNat)) (m722 + x757.toNat) (byteAt strC2 x741.toNat)) (m722 + x763.toNat) (byteAt strC2 x765.toNat)) (m722 + x764.toNat) (byteAt strC2 x739.toNat))
        else
        none
        else
        none
        else
        none
        else
        none
        else
        none
        else
        none
        else
        none
        else
        none
        else
        none
        else
        none
        else
        none
        else
        none
        else
        none
        else
        none
        else
        none
        else
        none
        else
        none
        else
        none
        else
        none
        else
        none
        else
        none
        else
        none
        else
        none
      else
        none)
     (
      k771 v725 v726 a727) := by kernel_rfl
theorem g128_o {α : Type} (m : Nat) (m717 : Nat) (m718 : Nat) (m719 : Nat) (p720 : Int) (u721 : List Int) (k839 : (List Int) → Option α) : g128 m m717 m718 m719 p720 u721 k839 =
    g128l0 m717 m718 m719
      (fun x773 x774 l775 =>
        let x776 : Int := IntKind.wrap .u32 x773
        cond (decide (x774 ≥ (4 : Int)))
        (
        let x778 : Int := Int.tmod x776 (10000 : Int)
        let x779 : Int := IntKind.wrap .u32 (Int.tdiv x776 (10000 : Int))
        let x781 : Int := IntKind.wrap .u32 ((IntKind.wrap .u32 (Int.tdiv x778 (100 : Int))) * (2 : Int))
        let x783 : Int := IntKind.wrap .u32 ((Int.tmod x778 (100 : Int)) * (2 : Int))
        let x784 : Int := IntKind.wrap .i64 (x774 - (1 : Int))
        let x785 : Int := IntKind.wrap .i64 (x774 - (2 : Int))
        let x786 : Int := IntKind.wrap .u32 (x783 + (1 : Int))
        if 0 ≤ x786 ∧ x786 < strC2.size then
        if 0 ≤ x783 ∧ x783 < strC2.size then
        if 0 ≤ x784 ∧ x784 < (m718 : Nat) then
        if (m717 + x784.toNat) < 24 then
        if 0 ≤ x785 ∧ x785 < (m718 : Nat) then
        if (m717 + x785.toNat) < 24 then
        let x791 : Int := IntKind.wrap .i64 (x774 - (3 : Int))
        let x792 : Int := IntKind.wrap .i64 (x774 - (4 : Int))
        let x793 : Int := IntKind.wrap .u32 (x781 + (1 : Int))
        if 0 ≤ x793 ∧ x793 < strC2.size then
        if 0 ≤ x781 ∧ x781 < strC2.size then
        if 0 ≤ x791 ∧ x791 < (m718 : Nat) then
        if (m717 + x791.toNat) < 24 then
        if 0 ≤ x792 ∧ x792 < (m718 : Nat) then
        if (m717 + x792.toNat) < 24 then
        let l797 : List Int := List.set (List.set (List.set (List.set l775 (m717 + x784.toNat) (byteAt strC2 x786.toNat)) (m717 + x785.toNat) (byteAt strC2 x783.toNat)) (m717 + x791.toNat) (byteAt strC2 x793.toNat)) (m717 + x792.toNat) (byteAt strC2 x781.toNat)
        let x798 : Int := IntKind.wrap .i64 (x774 - (4 : Int))
        cond (decide (x798 ≥ (2 : Int)))
        (
        let x801 : Int := IntKind.wrap .u32 ((Int.tmod x779 (100 : Int)) * (2 : Int))
        let x803 : Int := IntKind.wrap .i64 (x798 - (1 : Int))
        let x804 : Int := IntKind.wrap .i64 (x798 - (2 : Int))
        let x805 : Int := IntKind.wrap .u32 (x801 + (1 : Int))
        if 0 ≤ x805 ∧ x805 < strC2.size then
        if 0 ≤ x801 ∧ x801 < strC2.size then
        if 0 ≤ x803 ∧ x803 < (m718 : Nat) then
        if (m717 + x803.toNat) < 24 then
        if 0 ≤ x804 ∧ x804 < (m718 : Nat) then
        if (m717 + x804.toNat) < 24 then
        let l809 : List Int := List.set (List.set l797 (m717 + x803.toNat) (byteAt strC2 x805.toNat)) (m717 + x804.toNat) (byteAt strC2 x801.toNat)
        cond (decide ((IntKind.wrap .i64 (x798 - (2 : Int))) > (0 : Int)))
        (
        if 0 ≤ (0 : Int) ∧ (0 : Int) < (m718 : Nat) then
        if (m717 + 0) < 24 then
        k839 (List.set l809 (m717 + 0) (IntKind.wrap .u8 (IntKind.wrap .u32 ((48 : Int) + (IntKind.wrap .u32 (Int.tdiv x779 (100 : Int)))))))
        else
        none
        else
        none)
        (
        k839 l809)
        else
        none
        else
        none
        else
        none
        else
        none
        else
        none
        else
        none)
        (
        cond (decide (x798 > (0 : Int)))
        (
        if 0 ≤ (0 : Int) ∧ (0 : Int) < (m718 : Nat) then
        if (m717 + 0) < 24 then
        k839 (List.set l797 (m717 + 0) (IntKind.wrap .u8 (IntKind.wrap .u32 ((48 : Int) + x779))))
        else
        none
        else
        none)
        (
        k839 l797))
        else
        none
        else
        none
        else
        none
        else
        none
        else
        none
        else
        none
        else
        none
        else
        none
        else
        none
        else
        none
        else
        none
        else
        none)
        (
        cond (decide (x774 ≥ (2 : Int)))
        (
        let x821 : Int := IntKind.wrap .u32 ((Int.tmod x776 (100 : Int)) * (2 : Int))
        let x823 : Int := IntKind.wrap .i64 (x774 - (1 : Int))
        let x824 : Int := IntKind.wrap .i64 (x774 - (2 : Int))
        let x825 : Int := IntKind.wrap .u32 (x821 + (1 : Int))
        if 0 ≤ x825 ∧ x825 < strC2.size then
        if 0 ≤ x821 ∧ x821 < strC2.size then
        if 0 ≤ x823 ∧ x823 < (m718 : Nat) then
        if (m717 + x823.toNat) < 24 then
        if 0 ≤ x824 ∧ x824 < (m718 : Nat) then
        if (m717 + x824.toNat) < 24 then
        let l829 : List Int := List.set (List.set l775 (m717 + x823.toNat) (byteAt strC2 x825.toNat)) (m717 + x824.toNat) (byteAt strC2 x821.toNat)
        cond (decide ((IntKind.wrap .i64 (x774 - (2 : Int))) > (0 : Int)))
        (
        if 0 ≤ (0 : Int) ∧ (0 : Int) < (m718 : Nat) then
        if (m717 + 0) < 24 then
        k839 (List.set l829 (m717 + 0) (IntKind.wrap .u8 (IntKind.wrap .u32 ((48 : Int) + (IntKind.wrap .u32 (Int.tdiv x776 (100 : Int)))))))
        else
        none
        else
        none)
        (
        k839 l829)
        else
        none
        else
        none
        else
        none
        else
        none
        else
        none
        else
        none)
        (
        cond (decide (x774 > (0 : Int)))
        (
        if 0 ≤ (0 : Int) ∧ (0 : Int) < (m718 : Nat) then
        if (m717 + 0) < 24 then
        k839 (List.set l775 (m717 + 0) (IntKind.wrap .u8 (IntKind.wrap .u32 ((48 : Int) + x776))))
        else
        none
        else
        none)
        (
        k839 l775))))
      m p720 ((m718 : Nat) : Int) u721 := by kernel_rfl
theorem g114_o {α : Type} (m : Nat) (p643 : Int) (p644 : Int) (k890 : ByteArray → Option α) : g114 m p643 p644 k890 =
    cond (p644 == (10 : Int))
     (
      cond (decide ((0 : Int) ≤ p643))
       (
        cond (decide (p643 < (100 : Int)))
        (
        (g126 m) p643
        (fun s648 =>
        k890 s648))
        (
        let x649 : Int := IntKind.wrap .u64 p643
        cond (decide (p643 < (0 : Int)))
        (
        let x651 : Int := IntKind.wrap .u64 (0 - x649)
        (g127 m) x651
        (fun x714 =>
        let x715 : Int := IntKind.wrap .i64 ((1 : Int) + x714)
        if 0 ≤ (1 : Int) ∧ (1 : Int) ≤ x715 ∧ x715 ≤ ((24 : Nat) : Int) then
        (g128 m) 1 ((Int.toNat x715) - 1) 23 x651 (List.replicate 24 0)
        (fun l840 =>
        cond (decide (p643 < (0 : Int)))
        (
        let x843 : Int := IntKind.wrap .i64 ((1 : Int) + x714)
        if 0 ≤ (0 : Int) ∧ (0 : Int) ≤ x843 ∧ x843 ≤ ((24 : Nat) : Int) then
        let n844 : Nat := (Int.toNat x843) - 0
        if 0 + n844 ≤ 24 then
        k890 (bytesS (List.take n844 (List.drop 0 (List.set l840 0 (45 : Int)))))
        else
        none
        else
        none)
        (
        let x846 : Int := IntKind.wrap .i64 ((1 : Int) + x714)
        if 0 ≤ (1 : Int) ∧ (1 : Int) ≤ x846 ∧ x846 ≤ ((24 : Nat) : Int) then
        let n847 : Nat := (Int.toNat x846) - 1
        if 1 + n847 ≤ 24 then
        k890 (bytesS (List.take n847 (List.drop 1 l840)))
        else
        none
        else
        none))
        else
        none))
        (
        (g127 m) x649
        (fun x849 =>
        let x850 : Int := IntKind.wrap .i64 ((1 : Int) + x849)
        if 0 ≤ (1 : Int) ∧ (1 : Int) ≤ x850 ∧ x850 ≤ ((24 : Nat) : Int) then
        (g128 m) 1 ((Int.toNat x850) - 1) 23 x649 (List.replicate 24 0)
        (fun l852 =>
        cond (decide (p643 < (0 : Int)))
        (
        let x855 : Int := IntKind.wrap .i64 ((1 : Int) + x849)
        if 0 ≤ (0 : Int) ∧ (0 : Int) ≤ x855 ∧ x855 ≤ ((24 : Nat) : Int) then
        let n856 : Nat := (Int.toNat x855) - 0
        if 0 + n856 ≤ 24 then
        k890 (bytesS (List.take n856 (List.drop 0 (List.set l852 0 (45 : Int)))))
        else
        none
        else
        none)
        (
        let x858 : Int := IntKind.wrap .i64 ((1 : Int) + x849)
        if 0 ≤ (1 : Int) ∧ (1 : Int) ≤ x858 ∧ x858 ≤ ((24 : Nat) : Int) then
        let n859 : Nat := (Int.toNat x858) - 1
        if 1 + n859 ≤ 24 then
        k890 (bytesS (List.take n859 (List.drop 1 l852)))
        else
        none
        else
        none))
        else
        none))))
       (
        let x861 : Int := IntKind.wrap .u64 p643
        cond (decide (p643 < (0 : Int)))
        (
        let x863 : Int := IntKind.wrap .u64 (0 - x861)
        (g127 m) x863
        (fun x864 =>
        let x865 : Int := IntKind.wrap .i64 ((1 : Int) + x864)
        if 0 ≤ (1 : Int) ∧ (1 : Int) ≤ x865 ∧ x865 ≤ ((24 : Nat) : Int) then
        (g128 m) 1 ((Int.toNat x865) - 1) 23 x863 (List.replicate 24 0)
        (fun l867 =>
        cond (decide (p643 < (0 : Int)))
        (
        let x870 : Int := IntKind.wrap .i64 ((1 : Int) + x864)
        if 0 ≤ (0 : Int) ∧ (0 : Int) ≤ x870 ∧ x870 ≤ ((24 : Nat) : Int) then
        let n871 : Nat := (Int.toNat x870) - 0
        if 0 + n871 ≤ 24 then
        k890 (bytesS (List.take n871 (List.drop 0 (List.set l867 0 (45 : Int)))))
        else
        none
        else
        none)
        (
        let x873 : Int := IntKind.wrap .i64 ((1 : Int) + x864)
        if 0 ≤ (1 : Int) ∧ (1 : Int) ≤ x873 ∧ x873 ≤ ((24 : Nat) : Int) then
        let n874 : Nat := (Int.toNat x873) - 1
        if 1 + n874 ≤ 24 then
        k890 (bytesS (List.take n874 (List.drop 1 l867)))
        else
        none
        else
        none))
        else
        none))
        (
        (g127 m) x861
        (fun x876 =>
        let x877 : Int := IntKind.wrap .i64 ((1 : Int) + x876)
        if 0 ≤ (1 : Int) ∧ (1 : Int) ≤ x877 ∧ x877 ≤ ((24 : Nat) : Int) then
        (g128 m) 1 ((Int.toNat x877) - 1) 23 x861 (List.replicate 24 0)
        (fun l879 =>
        cond (decide (p643 < (0 : Int)))
        (
        let x882 : Int := IntKind.wrap .i64 ((1 : Int) + x876)
        if 0 ≤ (0 : Int) ∧ (0 : Int) ≤ x882 ∧ x882 ≤ ((24 : Nat) : Int) then
        let n883 : Nat := (Int.toNat x882) - 0
        if 0 + n883 ≤ 24 then
        k890 (bytesS (List.take n883 (List.drop 0 (List.set l879 0 (45 : Int)))))
        else
        none
        else
        none)
        (
        let x885 : Int := IntKind.wrap .i64 ((1 : Int) + x876)
        if 0 ≤ (1 : Int) ∧ (1 : Int) ≤ x885 ∧ x885 ≤ ((24 : Nat) : Int) then
        let n886 : Nat := (Int.toNat x885) - 1
        if 1 + n886 ≤ 24 then
        k890 (bytesS (List.take n886 (List.drop 1 l879)))
        else
        none
        else
        none))
        else
        none))))
     (
      none) := by kernel_rfl
theorem g83_o {α : Type} (m : Nat) (p641 : Int) (p642 : Int) (k892 : ByteArray → Option α) : g83 m p641 p642 k892 =
    (g114 m) p641 p642
      (fun s891 =>
        k892 s891) := by kernel_rfl
theorem g109_o {α : Type} (m : Nat) (z634 : ByteArray) (k896 : Int → Bool → Option α) : g109 m z634 k896 =
    (g124 m) z634 (10 : Int) (64 : Int)
      (fun x640 =>
        (g83 m) x640 (10 : Int)
        (fun s893 =>
        k896 x640 (bytesEq s893 z634)))
      (fun x895 =>
        k896 x895 false) := by kernel_rfl
theorem g72_o {α : Type} (m : Nat) (m606 : Nat) (m607 : Nat) (m608 : Nat) (m609 : Nat) (u610 : Ty0) (k993 : Int → Int → Int → ByteArray → ByteArray → Bool → Option α) : g72 m m606 m607 m608 m609 u610 k993 =
    if 0 ≤ (0 : Int) ∧ (0 : Int) < (m607 : Nat) then
      if (m606 + 0) < m609 then
        (g108 m) (List.getD u610 (m606 + 0) ⟨#[]⟩)
        (fun x627 =>
        (g74 m) x627
        (fun b628 b629 b630 =>
        cond b630
        (
        cond b630
        (
        cond (x627 == (0 : Int))
        (
        k993 (0 : Int) (0 : Int) (0 : Int) (⟨#[]⟩ : ByteArray) (⟨#[]⟩ : ByteArray) false)
        (
        cond (((m607 : Nat) : Int) != (3 : Int))
        (
        k993 (0 : Int) (0 : Int) (0 : Int) (⟨#[]⟩ : ByteArray) (⟨#[]⟩ : ByteArray) false)
        (
        cond b630
        (
        if 0 ≤ (1 : Int) ∧ (1 : Int) < (m607 : Nat) then
        if (m606 + 1) < m609 then
        (g109 m) (List.getD u610 (m606 + 1) ⟨#[]⟩)
        (fun x897 b898 =>
        if 0 ≤ (2 : Int) ∧ (2 : Int) < (m607 : Nat) then
        if (m606 + 2) < m609 then
        (g109 m) (List.getD u610 (m606 + 2) ⟨#[]⟩)
        (fun x900 b901 =>
        cond b898
        (
        k993 x627 x897 x900 (⟨#[]⟩ : ByteArray) (⟨#[]⟩ : ByteArray) b901)
        (
        k993 x627 x897 x900 (⟨#[]⟩ : ByteArray) (⟨#[]⟩ : ByteArray) false))
        else
        none
        else
        none)
        else
        none
        else
        none)
        (
        cond b628
        (
        if 0 ≤ (1 : Int) ∧ (1 : Int) < (m607 : Nat) then
        if (m606 + 1) < m609 then
        let s902 : ByteArray := List.getD u610 (m606 + 1) ⟨#[]⟩
        cond b629
        (
        if 0 ≤ (2 : Int) ∧ (2 : Int) < (m607 : Nat) then
        if (m606 + 2) < m609 then
        k993 x627 (0 : Int) (0 : Int) s902 (List.getD u610 (m606 + 2) ⟨#[]⟩) true
        else
        none
        else
        none)
        (
        k993 x627 (0 : Int) (0 : Int) s902 (⟨#[]⟩ : ByteArray) true)
        else
        none
        else
        none)
        (
        cond b629
        (
        if 0 ≤ (2 : Int) ∧ (2 : Int) < (m607 : Nat) then
        if (m606 + 2) < m609 then
        k993 x627 (0 : Int) (0 : Int) (⟨#[]⟩ : ByteArray) (List.getD u610 (m606 + 2) ⟨#[]⟩) true
        else
        none
        else
        none)
        (
        k993 x627 (0 : Int) (0 : Int) (⟨#[]⟩ : ByteArray) (⟨#[]⟩ : ByteArray) true))))))
        (
        cond b629
        (
        cond (x627 == (0 : Int))
        (
        k993 (0 : Int) (0 : Int) (0 : Int) (⟨#[]⟩ : ByteArray) (⟨#[]⟩ : ByteArray) false)
        (
        cond (((m607 : Nat) : Int) != (3 : Int))
        (
        k993 (0 : Int) (0 : Int) (0 : Int) (⟨#[]⟩ : ByteArray) (⟨#[]⟩ : ByteArray) false)
        (
        cond b630
        (
        if 0 ≤ (1 : Int) ∧ (1 : Int) < (m607 : Nat) then
        if (m606 + 1) < m609 then
        (g109 m) (List.getD u610 (m606 + 1) ⟨#[]⟩)
        (fun x908 b909 =>
        if 0 ≤ (2 : Int) ∧ (2 : Int) < (m607 : Nat) then
        if (m606 + 2) < m609 then
        (g109 m) (List.getD u610 (m606 + 2) ⟨#[]⟩)
        (fun x911 b912 =>
        cond b909
        (
        k993 x627 x908 x911 (⟨#[]⟩ : ByteArray) (⟨#[]⟩ : ByteArray) b912)
        (
        k993 x627 x908 x911 (⟨#[]⟩ : ByteArray) (⟨#[]⟩ : ByteArray) false))
        else
        none
        else
        none)
        else
        none
        else
        none)
        (
        cond b628
        (
        if 0 ≤ (1 : Int) ∧ (1 : Int) < (m607 : Nat) then
        if (m606 + 1) < m609 then
        let s913 : ByteArray := List.getD u610 (m606 + 1) ⟨#[]⟩
        cond b629
        (
        if 0 ≤ (2 : Int) ∧ (2 : Int) < (m607 : Nat) then
        if (m606 + 2) < m609 then
        k993 x627 (0 : Int) (0 : Int) s913 (List.getD u610 (m606 + 2) ⟨#[]⟩) true
        else
        none
        else
        none)
        (
        k993 x627 (0 : Int) (0 : Int) s913 (⟨#[]⟩ : ByteArray) true)
        else
        none
        else
        none)
        (
        cond b629
        (
        if 0 ≤ (2 : Int) ∧ (2 : Int) < (m607 : Nat) then
        if (m606 + 2) < m609 then
        k993 x627 (0 : Int) (0 : Int) (⟨#[]⟩ : ByteArray) (List.getD u610 (m606 + 2) ⟨#[]⟩) true
        else
        none
        else
        none)
        (
        k993 x627 (0 : Int) (0 : Int) (⟨#[]⟩ : ByteArray) (⟨#[]⟩ : ByteArray) true))))))
        (
        cond (x627 == (0 : Int))
        (
        k993 (0 : Int) (0 : Int) (0 : Int) (⟨#[]⟩ : ByteArray) (⟨#[]⟩ : ByteArray) false)
        (
        cond (((m607 : Nat) : Int) != (2 : Int))
        (
        k993 (0 : Int) (0 : Int) (0 : Int) (⟨#[]⟩ : ByteArray) (⟨#[]⟩ : ByteArray) false)
        (
        cond b630
        (
        if 0 ≤ (1 : Int) ∧ (1 : Int) < (m607 : Nat) then
        if (m606 + 1) < m609 then
        (g109 m) (List.getD u610 (m606 + 1) ⟨#[]⟩)
        (fun x919 b920 =>
        if 0 ≤ (2 : Int) ∧ (2 : Int) < (m607 : Nat) then
        if (m606 + 2) < m609 then
        (g109 m) (List.getD u610 (m606 + 2) ⟨#[]⟩)
        (fun x922 b923 =>
        cond b920
        (
        k993 x627 x919 x922 (⟨#[]⟩ : ByteArray) (⟨#[]⟩ : ByteArray) b923)
        (
        k993 x627 x919 x922 (⟨#[]⟩ : ByteArray) (⟨#[]⟩ : ByteArray) false))
        else
        none
        else
        none)
        else
        none
        else
        none)
        (
        cond b628
        (
        if 0 ≤ (1 : Int) ∧ (1 : Int) < (m607 : Nat) then
        if (m606 + 1) < m609 then
        let s924 : ByteArray := List.getD u610 (m606 + 1) ⟨#[]⟩
        cond b629
        (
        if 0 ≤ (2 : Int) ∧ (2 : Int) < (m607 : Nat) then
        if (m606 + 2) < m609 then
        k993 x627 (0 : Int) (0 : Int) s924 (List.getD u610 (m606 + 2) ⟨#[]⟩) true
        else
        none
        else
        none)
        (
        k993 x627 (0 : Int) (0 : Int) s924 (⟨#[]⟩ : ByteArray) true)
        else
        none
        else
        none)
        (
        cond b629
        (
        if 0 ≤ (2 : Int) ∧ (2 : Int) < (m607 : Nat) then
        if (m606 + 2) < m609 then
        k993 x627 (0 : Int) (0 : Int) (⟨#[]⟩ : ByteArray) (List.getD u610 (m606 + 2) ⟨#[]⟩) true
        else
        none
        else
        none)
        (
        k993 x627 (0 : Int) (0 : Int) (⟨#[]⟩ : ByteArray) (⟨#[]⟩ : ByteArray) true))))))))
        (
        cond b628
        (
        cond b630
        (
        cond (x627 == (0 : Int))
        (
        k993 (0 : Int) (0 : Int) (0 : Int) (⟨#[]⟩ : ByteArray) (⟨#[]⟩ : ByteArray) false)
        (
        cond (((m607 : Nat) : Int) != (3 : Int))
        (
        k993 (0 : Int) (0 : Int) (0 : Int) (⟨#[]⟩ : ByteArray) (⟨#[]⟩ : ByteArray) false)
        (
        cond b630
        (
        if 0 ≤ (1 : Int) ∧ (1 : Int) < (m607 : Nat) then
        if (m606 + 1) < m609 then
        (g109 m) (List.getD u610 (m606 + 1) ⟨#[]⟩)
        (fun x930 b931 =>
        if 0 ≤ (2 : Int) ∧ (2 : Int) < (m607 : Nat) then
        if (m606 + 2) < m609 then
        (g109 m) (List.getD u610 (m606 + 2) ⟨#[]⟩)
        (fun x933 b934 =>
        cond b931
        (
        k993 x627 x930 x933 (⟨#[]⟩ : ByteArray) (⟨#[]⟩ : ByteArray) b934)
        (
        k993 x627 x930 x933 (⟨#[]⟩ : ByteArray) (⟨#[]⟩ : ByteArray) false))
        else
        none
        else
        none)
        else
        none
        else
        none)
        (
        cond b628
        (
        if 0 ≤ (1 : Int) ∧ (1 : Int) < (m607 : Nat) then
        if (m606 + 1) < m609 then
        let s935 : ByteArray := List.getD u610 (m606 + 1) ⟨#[]⟩
        cond b629
        (
        if 0 ≤ (2 : Int) ∧ (2 : Int) < (m607 : Nat) then
        if (m606 + 2) < m609 then
        k993 x627 (0 : Int) (0 : Int) s935 (List.getD u610 (m606 + 2) ⟨#[]⟩) true
        else
        none
        else
        none)
        (
        k993 x627 (0 : Int) (0 : Int) s935 (⟨#[]⟩ : ByteArray) true)
        else
        none
        else
        none)
        (
        cond b629
        (
        if 0 ≤ (2 : Int) ∧ (2 : Int) < (m607 : Nat) then
        if (m606 + 2) < m609 then
        k993 x627 (0 : Int) (0 : Int) (⟨#[]⟩ : ByteArray) (List.getD u610 (m606 + 2) ⟨#[]⟩) true
        else
        none
        else
        none)
        (
        k993 x627 (0 : Int) (0 : Int) (⟨#[]⟩ : ByteArray) (⟨#[]⟩ : ByteArray) true))))))
        (
        cond b629
        (
        cond (x627 == (0 : Int))
        (
        k993 (0 : Int) (0 : Int) (0 : Int) (⟨#[]⟩ : ByteArray) (⟨#[]⟩ : ByteArray) false)
        (
        cond (((m607 : Nat) : Int) != (3 : Int))
        (
        k993 (0 : Int) (0 : Int) (0 : Int) (⟨#[]⟩ : ByteArray) (⟨#[]⟩ : ByteArray) false)
        (
        cond b630
        (
        if 0 ≤ (1 : Int) ∧ (1 : Int) < (m607 : Nat) then
        if (m606 + 1) < m609 then
        (g109 m) (List.getD u610 (m606 + 1) ⟨#[]⟩)
        (fun x941 b942 =>
        if 0 ≤ (2 : Int) ∧ (2 : Int) < (m607 : Nat) then
        if (m606 + 2) < m609 then
        (g109 m) (List.getD u610 (m606 + 2) ⟨#[]⟩)
        (fun x944 b945 =>
        cond b942
        (
        k993 x627 x941 x944 (⟨#[]⟩ : ByteArray) (⟨#[]⟩ : ByteArray) b945)
        (
        k993 x627 x941 x944 (⟨#[]⟩ : ByteArray) (⟨#[]⟩ : ByteArray) false))
        else
        none
        else
        none)
        else
        none
        else
        none)
        (
        cond b628
        (
        if 0 ≤ (1 : Int) ∧ (1 : Int) < (m607 : Nat) then
        if (m606 + 1) < m609 then
        let s946 : ByteArray := List.getD u610 (m606 + 1) ⟨#[]⟩
        cond b629
        (
        if 0 ≤ (2 : Int) ∧ (2 : Int) < (m607 : Nat) then
        if (m606 + 2) < m609 then
        k993 x627 (0 : Int) (0 : Int) s946 (List.getD u610 (m606 + 2) ⟨#[]⟩) true
        else
        none
        else
        none)
        (
        k993 x627 (0 : Int) (0 : Int) s946 (⟨#[]⟩ : ByteArray) true)
        else
        none
        else
        none)
        (
        cond b629
        (
        if 0 ≤ (2 : Int) ∧ (2 : Int) < (m607 : Nat) then
        if (m606 + 2) < m609 then
        k993 x627 (0 : Int) (0 : Int) (⟨#[]⟩ : ByteArray) (List.getD u610 (m606 + 2) ⟨#[]⟩) true
        else
        none
        else
        none)
        (
        k993 x627 (0 : Int) (0 : Int) (⟨#[]⟩ : ByteArray) (⟨#[]⟩ : ByteArray) true))))))
        (
        cond (x627 == (0 : Int))
        (
        k993 (0 : Int) (0 : Int) (0 : Int) (⟨#[]⟩ : ByteArray) (⟨#[]⟩ : ByteArray) false)
        (
        cond (((m607 : Nat) : Int) != (2 : Int))
        (
        k993 (0 : Int) (0 : Int) (0 : Int) (⟨#[]⟩ : ByteArray) (⟨#[]⟩ : ByteArray) false)
        (
        cond b630
        (
        if 0 ≤ (1 : Int) ∧ (1 : Int) < (m607 : Nat) then
        if (m606 + 1) < m609 then
        (g109 m) (List.getD u610 (m606 + 1) ⟨#[]⟩)
        (fun x952 b953 =>
        if 0 ≤ (2 : Int) ∧ (2 : Int) < (m607 : Nat) then
        if (m606 + 2) < m609 then
        (g109 m) (List.getD u610 (m606 + 2) ⟨#[]⟩)
        (fun x955 b956 =>
        cond b953
        (
        k993 x627 x952 x955 (⟨#[]⟩ : ByteArray) (⟨#[]⟩ : ByteArray) b956)
        (
        k993 x627 x952 x955 (⟨#[]⟩ : ByteArray) (⟨#[]⟩ : ByteArray) false))
        else
        none
        else
        none)
        else
        none
        else
        none)
        (
        cond b628
        (
        if 0 ≤ (1 : Int) ∧ (1 : Int) < (m607 : Nat) then
        if (m606 + 1) < m609 then
        let s957 : ByteArray := List.getD u610 (m606 + 1) ⟨#[]⟩
        cond b629
        (
        if 0 ≤ (2 : Int) ∧ (2 : Int) < (m607 : Nat) then
        if (m606 + 2) < m609 then
        k993 x627 (0 : Int) (0 : Int) s957 (List.getD u610 (m606 + 2) ⟨#[]⟩) true
        else
        none
        else
        none)
        (
        k993 x627 (0 : Int) (0 : Int) s957 (⟨#[]⟩ : ByteArray) true)
        else
        none
        else
        none)
        (
        cond b629
        (
        if 0 ≤ (2 : Int) ∧ (2 : Int) < (m607 : Nat) then
        if (m606 + 2) < m609 then
        k993 x627 (0 : Int) (0 : Int) (⟨#[]⟩ : ByteArray) (List.getD u610 (m606 + 2) ⟨#[]⟩) true
        else
        none
        else
        none)
        (
        k993 x627 (0 : Int) (0 : Int) (⟨#[]⟩ : ByteArray) (⟨#[]⟩ : ByteArray) true))))))))
        (
        cond b630
        (
        cond (x627 == (0 : Int))
        (
        k993 (0 : Int) (0 : Int) (0 : Int) (⟨#[]⟩ : ByteArray) (⟨#[]⟩ : ByteArray) false)
        (
        cond (((m607 : Nat) : Int) != (2 : Int))
        (
        k993 (0 : Int) (0 : Int) (0 : Int) (⟨#[]⟩ : ByteArray) (⟨#[]⟩ : ByteArray) false)
        (
        cond b630
        (
        if 0 ≤ (1 : Int) ∧ (1 : Int) < (m607 : Nat) then
        if (m606 + 1) < m609 then
        (g109 m) (List.getD u610 (m606 + 1) ⟨#[]⟩)
        (fun x963 b964 =>
        if 0 ≤ (2 : Int) ∧ (2 : Int) < (m607 : Nat) then
        if (m606 + 2) < m609 then
        (g109 m) (List.getD u610 (m606 + 2) ⟨#[]⟩)
        (fun x966 b967 =>
        cond b964
        (
        k993 x627 x963 x966 (⟨#[]⟩ : ByteArray) (⟨#[]⟩ : ByteArray) b967)
        (
        k993 x627 x963 x966 (⟨#[]⟩ : ByteArray) (⟨#[]⟩ : ByteArray) false))
        else
        none
        else
        none)
        else
        none
        else
        none)
        (
        cond b628
        (
        if 0 ≤ (1 : Int) ∧ (1 : Int) < (m607 : Nat) then
        if (m606 + 1) < m609 then
        let s968 : ByteArray := List.getD u610 (m606 + 1) ⟨#[]⟩
        cond b629
        (
        if 0 ≤ (2 : Int) ∧ (2 : Int) < (m607 : Nat) then
        if (m606 + 2) < m609 then
        k993 x627 (0 : Int) (0 : Int) s968 (List.getD u610 (m606 + 2) ⟨#[]⟩) true
        else
        none
        else
        none)
        (
        k993 x627 (0 : Int) (0 : Int) s968 (⟨#[]⟩ : ByteArray) true)
        else
        none
        else
        none)
        (
        cond b629
        (
        if 0 ≤ (2 : Int) ∧ (2 : Int) < (m607 : Nat) then
        if (m606 + 2) < m609 then
        k993 x627 (0 : Int) (0 : Int) (⟨#[]⟩ : ByteArray) (List.getD u610 (m606 + 2) ⟨#[]⟩) true
        else
        none
        else
        none)
        (
        k993 x627 (0 : Int) (0 : Int) (⟨#[]⟩ : ByteArray) (⟨#[]⟩ : ByteArray) true))))))
        (
        cond b629
        (
        cond (x627 == (0 : Int))
        (
        k993 (0 : Int) (0 : Int) (0 : Int) (⟨#[]⟩ : ByteArray) (⟨#[]⟩ : ByteArray) false)
        (
        cond (((m607 : Nat) : Int) != (2 : Int))
        (
        k993 (0 : Int) (0 : Int) (0 : Int) (⟨#[]⟩ : ByteArray) (⟨#[]⟩ : ByteArray) false)
        (
        cond b630
        (
        if 0 ≤ (1 : Int) ∧ (1 : Int) < (m607 : Nat) then
        if (m606 + 1) < m609 then
        (g109 m) (List.getD u610 (m606 + 1) ⟨#[]⟩)
        (fun x974 b975 =>
        if 0 ≤ (2 : Int) ∧ (2 : Int) < (m607 : Nat) then
        if (m606 + 2) < m609 then
        (g109 m) (List.getD u610 (m606 + 2) ⟨#[]⟩)
        (fun x977 b978 =>
        cond b975
        (
        k993 x627 x974 x977 (⟨#[]⟩ : ByteArray) (⟨#[]⟩ : ByteArray) b978)
        (
        k993 x627 x974 x977 (⟨#[]⟩ : ByteArray) (⟨#[]⟩ : ByteArray) false))
        else
        none
        else
        none)
        else
        none
        else
        none)
        (
        cond b628
        (
        if 0 ≤ (1 : Int) ∧ (1 : Int) < (m607 : Nat) then
        if (m606 + 1) < m609 then
        let s979 : ByteArray := List.getD u610 (m606 + 1) ⟨#[]⟩
        cond b629
        (
        if 0 ≤ (2 : Int) ∧ (2 : Int) < (m607 : Nat) then
        if (m606 + 2) < m609 then
        k993 x627 (0 : Int) (0 : Int) s979 (List.getD u610 (m606 + 2) ⟨#[]⟩) true
        else
        none
        else
        none)
        (
        k993 x627 (0 : Int) (0 : Int) s979 (⟨#[]⟩ : ByteArray) true)
        else
        none
        else
        none)
        (
        cond b629
        (
        if 0 ≤ (2 : Int) ∧ (2 : Int) < (m607 : Nat) then
        if (m606 + 2) < m609 then
        k993 x627 (0 : Int) (0 : Int) (⟨#[]⟩ : ByteArray) (List.getD u610 (m606 + 2) ⟨#[]⟩) true
        else
        none
        else
        none)
        (
        k993 x627 (0 : Int) (0 : Int) (⟨#[]⟩ : ByteArray) (⟨#[]⟩ : ByteArray) true))))))
        (
        cond (x627 == (0 : Int))
        (
        k993 (0 : Int) (0 : Int) (0 : Int) (⟨#[]⟩ : ByteArray) (⟨#[]⟩ : ByteArray) false)
        (
        cond (((m607 : Nat) : Int) != (1 : Int))
        (
        k993 (0 : Int) (0 : Int) (0 : Int) (⟨#[]⟩ : ByteArray) (⟨#[]⟩ : ByteArray) false)
        (
        cond b630
        (
        if 0 ≤ (1 : Int) ∧ (1 : Int) < (m607 : Nat) then
        if (m606 + 1) < m609 then
        (g109 m) (List.getD u610 (m606 + 1) ⟨#[]⟩)
        (fun x985 b986 =>
        if 0 ≤ (2 : Int) ∧ (2 : Int) < (m607 : Nat) then
        if (m606 + 2) < m609 then
        (g109 m) (List.getD u610 (m606 + 2) ⟨#[]⟩)
        (fun x988 b989 =>
        cond b986
        (
        k993 x627 x985 x988 (⟨#[]⟩ : ByteArray) (⟨#[]⟩ : ByteArray) b989)
        (
        k993 x627 x985 x988 (⟨#[]⟩ : ByteArray) (⟨#[]⟩ : ByteArray) false))
        else
        none
        else
        none)
        else
        none
        else
        none)
        (
        cond b628
        (
        if 0 ≤ (1 : Int) ∧ (1 : Int) < (m607 : Nat) then
        if (m606 + 1) < m609 then
        let s990 : ByteArray := List.getD u610 (m606 + 1) ⟨#[]⟩
        cond b629
        (
        if 0 ≤ (2 : Int) ∧ (2 : Int) < (m607 : Nat) then
        if (m606 + 2) < m609 then
        k993 x627 (0 : Int) (0 : Int) s990 (List.getD u610 (m606 + 2) ⟨#[]⟩) true
        else
        none
        else
        none)
        (
        k993 x627 (0 : Int) (0 : Int) s990 (⟨#[]⟩ : ByteArray) true)
        else
        none
        else
        none)
        (
        cond b629
        (
        if 0 ≤ (2 : Int) ∧ (2 : Int) < (m607 : Nat) then
        if (m606 + 2) < m609 then
        k993 x627 (0 : Int) (0 : Int) (⟨#[]⟩ : ByteArray) (List.getD u610 (m606 + 2) ⟨#[]⟩) true
        else
        none
        else
        none)
        (
        k993 x627 (0 : Int) (0 : Int) (⟨#[]⟩ : ByteArray) (⟨#[]⟩ : ByteArray) true)))))))))))
      else
        none
    else
      none := by kernel_rfl
theorem g75_o {α : Type} (m : Nat) (z1004 : ByteArray) (k1011 : Int → Option α) : g75 m z1004 k1011 =
    (g109 m) z1004
      (fun x1005 b1006 =>
        cond (!b1006)
        (
        k1011 (-1 : Int))
        (
        (g111 m) x1005 (0 : Int) (1000 : Int)
        (fun b1008 =>
        cond (!b1008)
        (
        k1011 (-1 : Int))
        (
        k1011 (IntKind.wrap .i16 x1005))))) := by kernel_rfl
theorem g34l0_s {α : Type} (v516 : Int) (v517 : Int) (a518 : Ty1) (k520 : Option α) (m : Nat)  : g34l0 v516 v517 a518 k520 (m + 1)  =
    cond (decide (v517 < v516))
     (
      none)
     (
      k520) := by kernel_rfl
theorem g34l0v1_s {α : Type} (q : Nat) (m592 : Nat) (m593 : Nat) (m594 : Nat) (v595 : Int) (m598 : Nat) (a599 : Ty0) (k1023 : Option α) (k1024 : Ty1 → Option α) (m : Nat) (v596 : Int) (a597 : Ty1) : g34l0v1 (g73 q) (g72 q) (g74 q) (g75 q) m592 m593 m594 v595 m598 a599 k1023 k1024 (m + 1) v596 a597 =
    cond (decide (v596 < v595))
     (
      if 0 ≤ v596 ∧ v596 < (m593 : Nat) then
        if (m592 + v596.toNat) < m598 then
        (g73 q) (List.getD a599 (m592 + v596.toNat) ⟨#[]⟩) (⟨#[32]⟩ : ByteArray)
        (fun n602 n603 n604 l605 =>
        (g72 q) 0 n602 n603 n604 l605
        (fun x994 x995 x996 s997 s998 b999 =>
        cond (!b999)
        (
        k1023)
        (
        (g74 q) x994
        (fun b1001 b1002 b1003 =>
        cond b1001
        (
        (g75 q) s997
        (fun x1012 =>
        cond b1002
        (
        (g75 q) s998
        (fun x1013 =>
        if a597.length + 1 ≤ 67108864 then
        (g34l0v1 (g73 q) (g72 q) (g74 q) (g75 q) m592 m593 m594 v595 m598 a599 k1023 k1024 m) (IntKind.wrap .i64 (v596 + (1 : Int))) (a597 ++ [[x994, x1012, x1013, x995, x996]])
        else
        none))
        (
        if a597.length + 1 ≤ 67108864 then
        (g34l0v1 (g73 q) (g72 q) (g74 q) (g75 q) m592 m593 m594 v595 m598 a599 k1023 k1024 m) (IntKind.wrap .i64 (v596 + (1 : Int))) (a597 ++ [[x994, x1012, (0 : Int), x995, x996]])
        else
        none)))
        (
        cond b1002
        (
        (g75 q) s998
        (fun x1018 =>
        if a597.length + 1 ≤ 67108864 then
        (g34l0v1 (g73 q) (g72 q) (g74 q) (g75 q) m592 m593 m594 v595 m598 a599 k1023 k1024 m) (IntKind.wrap .i64 (v596 + (1 : Int))) (a597 ++ [[x994, (0 : Int), x1018, x995, x996]])
        else
        none))
        (
        if a597.length + 1 ≤ 67108864 then
        (g34l0v1 (g73 q) (g72 q) (g74 q) (g75 q) m592 m593 m594 v595 m598 a599 k1023 k1024 m) (IntKind.wrap .i64 (v596 + (1 : Int))) (a597 ++ [[x994, (0 : Int), (0 : Int), x995, x996]])
        else
        none))))))
        else
        none
      else
        none)
     (
      k1024 a597) := by kernel_rfl
theorem g34_o {α : Type} (m : Nat) (z491 : ByteArray) (k1029 : Option α) (k1030 : Ty1 → Option α) : g34 m z491 k1029 k1030 =
    (g71 m) z491 (40 : Int)
      (fun b514 =>
        cond (!b514)
        (
        k1029)
        (
        g34l0 (0 : Int) (0 : Int) []
        (
        (g40 m) []
        (fun b586 =>
        cond (!b586)
        (
        k1029)
        (
        k1030 [])))
        m ))
      (fun n588 n589 n590 l591 =>
        g34l0v1 (g73 m) (g72 m) (g74 m) (g75 m) 0 n588 n589 ((n588 : Nat) : Int) n590 l591
        (
        k1029)
        (fun l1026 =>
        (g40 m) l1026
        (fun b1027 =>
        cond (!b1027)
        (
        k1029)
        (
        k1030 l1026)))
        m (0 : Int) []) := by kernel_rfl
theorem g45_o {α : Type} (m : Nat) (p1078 : Int) (p1079 : Int) (p1080 : Int) (p1081 : Int) (p1082 : Int) (p1083 : Int) (p1084 : Int) (p1085 : Int) (p1086 : Int) (p1087 : Int) (k1093 : Bool → Option α) : g45 m p1078 p1079 p1080 p1081 p1082 p1083 p1084 p1085 p1086 p1087 k1093 =
    cond (p1078 != p1083)
     (
      k1093 false)
     (
      cond (p1079 != p1084)
       (
        k1093 false)
       (
        cond (p1080 != p1085)
        (
        k1093 false)
        (
        cond (p1081 != p1086)
        (
        k1093 false)
        (
        cond (p1082 != p1087)
        (
        k1093 false)
        (
        k1093 true))))) := by kernel_rfl
theorem g11v1l0_s {α : Type} (q : Nat) (a1065 : Ty1) (a1066 : Ty1) (k1097 : Option α) (k1098 : Option α) (m : Nat) (v1064 : Int) : g11v1l0 (g45 q) a1065 a1066 k1097 k1098 (m + 1) v1064 =
    cond (decide (v1064 < ((a1065.length : Nat) : Int)))
     (
      if 0 ≤ v1064 ∧ v1064 < (a1065.length : Nat) then
        if v1064.toNat < a1065.length then
        if 0 ≤ v1064 ∧ v1064 < (a1066.length : Nat) then
        if v1064.toNat < a1066.length then
        (g45 q) ((List.getD a1065 v1064.toNat []).headD 0) ((List.getD a1065 v1064.toNat []).tail.headD 0) ((List.getD a1065 v1064.toNat []).tail.tail.headD 0) ((List.getD a1065 v1064.toNat []).tail.tail.tail.headD 0) ((List.getD a1065 v1064.toNat []).tail.tail.tail.tail.headD 0) ((List.getD a1066 v1064.toNat []).headD 0) ((List.getD a1066 v1064.toNat []).tail.headD 0) ((List.getD a1066 v1064.toNat []).tail.tail.headD 0) ((List.getD a1066 v1064.toNat []).tail.tail.tail.headD 0) ((List.getD a1066 v1064.toNat []).tail.tail.tail.tail.headD 0)
        (fun b1094 =>
        cond (!b1094)
        (
        k1097)
        (
        (g11v1l0 (g45 q) a1065 a1066 k1097 k1098 m) (IntKind.wrap .i64 (v1064 + (1 : Int)))))
        else
        none
        else
        none
        else
        none
      else
        none)
     (
      k1098) := by kernel_rfl
theorem g11v1_o {α : Type} (m : Nat) (u1061 : Ty1) (u1062 : Ty1) (k1100 : Bool → Option α) : g11v1 m u1061 u1062 k1100 =
    cond (((u1061.length : Nat) : Int) != ((u1062.length : Nat) : Int))
     (
      k1100 false)
     (
      g11v1l0 (g45 m) u1061 u1062
        (
        k1100 false)
        (
        k1100 true)
        m (0 : Int)) := by kernel_rfl
theorem g35v1l0_s {α : Type}  (k1128 : Int → Ty1 → Option α) (m : Nat) (v1110 : Int) (v1111 : Int) (a1112 : Ty1) : g35v1l0 k1128 (m + 1) v1110 v1111 a1112 =
    cond (decide (v1111 < ((a1112.length : Nat) : Int)))
     (
      if 0 ≤ v1111 ∧ v1111 < (a1112.length : Nat) then
        if v1111.toNat < a1112.length then
        let l1115 : Ty1 := List.set a1112 (v1111.toNat) [(IntKind.wrap .i8 v1110), (List.getD a1112 v1111.toNat []).tail.headD 0, (List.getD a1112 v1111.toNat []).tail.tail.headD 0, (List.getD a1112 v1111.toNat []).tail.tail.tail.headD 0, (List.getD a1112 v1111.toNat []).tail.tail.tail.tail.headD 0]
        let x1116 : Int := IntKind.wrap .i64 (v1110 + (1 : Int))
        if 0 ≤ v1111 ∧ v1111 < (l1115.length : Nat) then
        if v1111.toNat < l1115.length then
        let l1118 : Ty1 := List.set l1115 (v1111.toNat) [(List.getD l1115 v1111.toNat []).headD 0, (IntKind.wrap .i16 x1116), (List.getD l1115 v1111.toNat []).tail.tail.headD 0, (List.getD l1115 v1111.toNat []).tail.tail.tail.headD 0, (List.getD l1115 v1111.toNat []).tail.tail.tail.tail.headD 0]
        let x1119 : Int := IntKind.wrap .i64 (x1116 + (1 : Int))
        if 0 ≤ v1111 ∧ v1111 < (l1118.length : Nat) then
        if v1111.toNat < l1118.length then
        let l1121 : Ty1 := List.set l1118 (v1111.toNat) [(List.getD l1118 v1111.toNat []).headD 0, (List.getD l1118 v1111.toNat []).tail.headD 0, (IntKind.wrap .i16 x1119), (List.getD l1118 v1111.toNat []).tail.tail.tail.headD 0, (List.getD l1118 v1111.toNat []).tail.tail.tail.tail.headD 0]
        let x1122 : Int := IntKind.wrap .i64 (x1119 + (1 : Int))
        if 0 ≤ v1111 ∧ v1111 < (l1121.length : Nat) then
        if v1111.toNat < l1121.length then
        let l1123 : Ty1 := List.set l1121 (v1111.toNat) [(List.getD l1121 v1111.toNat []).headD 0, (List.getD l1121 v1111.toNat []).tail.headD 0, (List.getD l1121 v1111.toNat []).tail.tail.headD 0, x1122, (List.getD l1121 v1111.toNat []).tail.tail.tail.tail.headD 0]
        let x1124 : Int := IntKind.wrap .i64 (x1122 + (1 : Int))
        if 0 ≤ v1111 ∧ v1111 < (l1123.length : Nat) then
        if v1111.toNat < l1123.length then
        (g35v1l0 k1128 m) (IntKind.wrap .i64 (x1124 + (1 : Int))) (IntKind.wrap .i64 (v1111 + (1 : Int))) (List.set l1123 (v1111.toNat) [(List.getD l1123 v1111.toNat []).headD 0, (List.getD l1123 v1111.toNat []).tail.headD 0, (List.getD l1123 v1111.toNat []).tail.tail.headD 0, (List.getD l1123 v1111.toNat []).tail.tail.tail.headD 0, x1124])
        else
        none
        else
        none
        else
        none
        else
        none
        else
        none
        else
        none
        else
        none
        else
        none
        else
        none
      else
        none)
     (
      k1128 v1110 a1112) := by kernel_rfl
theorem g35v1_o {α : Type} (m : Nat) (p1108 : Int) (u1109 : Ty1) (k1132 : Int → Ty1 → Option α) : g35v1 m p1108 u1109 k1132 =
    g35v1l0
      (fun x1130 l1131 =>
        k1132 x1130 l1131)
      m p1108 (0 : Int) u1109 := by kernel_rfl
theorem g36v1l0_s {α : Type} (a1139 : Ty1) (k1160 : Option α) (k1161 : Int → Option α) (m : Nat) (v1137 : Int) (v1138 : Int) : g36v1l0 a1139 k1160 k1161 (m + 1) v1137 v1138 =
    cond (decide (v1138 < ((a1139.length : Nat) : Int)))
     (
      if 0 ≤ v1138 ∧ v1138 < (a1139.length : Nat) then
        if v1138.toNat < a1139.length then
        cond (((List.getD a1139 v1138.toNat []).headD 0) != (IntKind.wrap .i8 v1137))
        (
        k1160)
        (
        let x1144 : Int := IntKind.wrap .i64 (v1137 + (1 : Int))
        if 0 ≤ v1138 ∧ v1138 < (a1139.length : Nat) then
        if v1138.toNat < a1139.length then
        cond ((((List.getD a1139 v1138.toNat []).tail).headD 0) != (IntKind.wrap .i16 x1144))
        (
        k1160)
        (
        let x1148 : Int := IntKind.wrap .i64 (x1144 + (1 : Int))
        if 0 ≤ v1138 ∧ v1138 < (a1139.length : Nat) then
        if v1138.toNat < a1139.length then
        cond ((((List.getD a1139 v1138.toNat []).tail.tail).headD 0) != (IntKind.wrap .i16 x1148))
        (
        k1160)
        (
        let x1152 : Int := IntKind.wrap .i64 (x1148 + (1 : Int))
        if 0 ≤ v1138 ∧ v1138 < (a1139.length : Nat) then
        if v1138.toNat < a1139.length then
        cond ((((List.getD a1139 v1138.toNat []).tail.tail.tail).headD 0) != x1152)
        (
        k1160)
        (
        let x1155 : Int := IntKind.wrap .i64 (x1152 + (1 : Int))
        if 0 ≤ v1138 ∧ v1138 < (a1139.length : Nat) then
        if v1138.toNat < a1139.length then
        cond ((((List.getD a1139 v1138.toNat []).tail.tail.tail.tail).headD 0) != x1155)
        (
        k1160)
        (
        (g36v1l0 a1139 k1160 k1161 m) (IntKind.wrap .i64 (x1155 + (1 : Int))) (IntKind.wrap .i64 (v1138 + (1 : Int))))
        else
        none
        else
        none)
        else
        none
        else
        none)
        else
        none
        else
        none)
        else
        none
        else
        none)
        else
        none
      else
        none)
     (
      k1161 v1137) := by kernel_rfl
theorem g36v1_o {α : Type} (m : Nat) (p1135 : Int) (u1136 : Ty1) (k1164 : Int → Option α) : g36v1 m p1135 u1136 k1164 =
    g36v1l0 u1136
      (
        k1164 (-1 : Int))
      (fun x1163 =>
        k1164 x1163)
      m p1135 (0 : Int) := by kernel_rfl
theorem g6_o {α : Type} (m : Nat) (z34 : ByteArray) (k1181 : Bool → Option α) : g6 m z34 k1181 =
    cond (decide (((z34.size : Nat) : Int) > (1048576 : Int)))
     (
      k1181 true)
     (
      (g33 m) z34
        (fun x489 l490 =>
        (g34 m) z34
        (
        (g11 m) l490
        (fun b1039 =>
        cond (!b1039)
        (
        k1181 false)
        (
        cond ((5 : Int) != x489)
        (
        k1181 false)
        (
        (g35 m) (1 : Int)
        (
        (g36 m) (1 : Int)
        (
        (g34 m) z34
        (
        (g11 m) l490
        (fun b1057 =>
        cond (!b1057)
        (
        k1181 false)
        (
        cond ((5 : Int) != x489)
        (
        k1181 false)
        (
        (g36 m) (1 : Int)
        (
        k1181 true)))))
        (fun l1060 =>
        (g11v1 m) l1060 l490
        (fun b1101 =>
        cond (!b1101)
        (
        k1181 false)
        (
        cond ((0 : Int) != x489)
        (
        k1181 false)
        (
        (g36 m) (1 : Int)
        (
        k1181 true)))))))))))
        (fun l1104 =>
        (g11v1 m) l1104 l490
        (fun b1105 =>
        cond (!b1105)
        (
        k1181 false)
        (
        cond ((0 : Int) != x489)
        (
        k1181 false)
        (
        (g35v1 m) (1 : Int) l1104
        (fun x1133 l1134 =>
        (g36v1 m) (1 : Int) l1134
        (fun x1165 =>
        cond (decide (x1165 < (0 : Int)))
        (
        k1181 false)
        (
        cond (x1165 != x1133)
        (
        k1181 false)
        (
        (g34 m) z34
        (
        (g11 m) l490
        (fun b1168 =>
        cond (!b1168)
        (
        k1181 false)
        (
        cond ((5 : Int) != x489)
        (
        k1181 false)
        (
        (g36v1 m) (1 : Int) l1134
        (fun x1171 =>
        cond (decide (x1171 < (0 : Int)))
        (
        k1181 false)
        (
        cond (x1171 != x1133)
        (
        k1181 false)
        (
        k1181 true)))))))
        (fun l1174 =>
        (g11v1 m) l1174 l490
        (fun b1175 =>
        cond (!b1175)
        (
        k1181 false)
        (
        cond ((0 : Int) != x489)
        (
        k1181 false)
        (
        (g36v1 m) (1 : Int) l1134
        (fun x1178 =>
        cond (decide (x1178 < (0 : Int)))
        (
        k1181 false)
        (
        cond (x1178 != x1133)
        (
        k1181 false)
        (
        k1181 true))))))))))))))))) := by kernel_rfl
end Go.Proofs.YtlmmgjngihlpeaaDoor.Sx
