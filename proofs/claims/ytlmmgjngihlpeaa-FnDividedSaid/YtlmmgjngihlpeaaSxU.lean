/- Equations that open the functions. Printed by our own sx.py. -/
import Derived.Test.YtlmmgjngihlpeaaSxV
namespace Go.Proofs.Ytlmmgjngihlpeaa.Sx
open Go
set_option linter.unusedVariables false
set_option maxRecDepth 100000
set_option linter.unusedVariables false
theorem g10_o {α : Type} (m : Nat) (m11 : Nat) (m12 : Nat) (m13 : Nat) (m14 : Nat) (u15 : List Int) (k17 : Bool → Option α) : g10 m m11 m12 m13 m14 u15 k17 =
    k17 (decide (((m12 : Nat) : Int) > (4096 : Int))) := by kernel_rfl

theorem g51_o {α : Type} (m : Nat) (m25 : Nat) (m26 : Nat) (m27 : Nat) (m28 : Nat) (u29 : List Int) (k30 : Option α) : g51 m m25 m26 m27 m28 u29 k30 =
    k30 := by kernel_rfl

theorem g106_o {α : Type} (m : Nat) (m47 : Nat) (m48 : Nat) (m49 : Nat) (p50 : Int) (p51 : Int) (m52 : Nat) (u53 : List Int) (k74 : Int → Int → Int → Option α) : g106 m m47 m48 m49 p50 p51 m52 u53 k74 =
    cond (decide (p50 < ((m48 : Nat) : Int)))
     (
      if 0 ≤ p50 ∧ p50 < (m48 : Nat) then
        if (m47 + p50.toNat) < m52 then
        let x56 : Int := IntKind.wrap .i64 (List.getD u53 (m47 + p50.toNat) 0)
        let x57 : Int := IntKind.wrap .i64 (p50 + (1 : Int))
        let x61 : Int := IntKind.wrap .u64 ((IntKind.wrap .u64 ((IntKind.wrap .u64 (p51 * (6364136223846793005 : Int))) + (IntKind.wrap .u64 x56))) + (1442695040888963407 : Int))
        cond (decide (x57 ≤ ((m48 : Nat) : Int)))
        (
        k74 x56 x57 x61)
        (
        k74 (IntKind.wrap .i64 (ibits .and .u64 (Int.fdiv x61 (2 ^ 40)) (255 : Int))) x57 x61)
        else
        none
      else
        none)
     (
      let x66 : Int := IntKind.wrap .i64 (p50 + (1 : Int))
      let x69 : Int := IntKind.wrap .u64 ((IntKind.wrap .u64 ((IntKind.wrap .u64 (p51 * (6364136223846793005 : Int))) + (0 : Int))) + (1442695040888963407 : Int))
      cond (decide (x66 ≤ ((m48 : Nat) : Int)))
       (
        k74 (0 : Int) x66 x69)
       (
        k74 (IntKind.wrap .i64 (ibits .and .u64 (Int.fdiv x69 (2 ^ 40)) (255 : Int))) x66 x69)) := by kernel_rfl

theorem g67_o {α : Type} (m : Nat) (p38 : Int) (m39 : Nat) (m40 : Nat) (m41 : Nat) (p42 : Int) (p43 : Int) (m44 : Nat) (u45 : List Int) (k86 : Int → Int → Int → Option α) : g67 m p38 m39 m40 m41 p42 p43 m44 u45 k86 =
    cond (decide (p38 ≤ (1 : Int)))
     (
      k86 (0 : Int) p42 p43)
     (
      (g106 m) m39 m40 m41 p42 p43 m44 u45
        (fun x75 x76 x77 =>
        cond (decide (p38 > (200 : Int)))
        (
        (g106 m) m39 m40 m41 x76 x77 m44 u45
        (fun x80 x81 x82 =>
        if p38 = 0 then
        none
        else
        k86 (Int.tmod (IntKind.wrap .i64 ((IntKind.wrap .i64 (x75 * (256 : Int))) + x80)) p38) x81 x82))
        (
        if p38 = 0 then
        none
        else
        k86 (Int.tmod x75 p38) x76 x77))) := by kernel_rfl

theorem g94_o {α : Type} (m : Nat) (p136 : Int) (m137 : Nat) (m138 : Nat) (m139 : Nat) (p140 : Int) (p141 : Int) (m142 : Nat) (u143 : List Int) (k148 : Bool → Int → Int → Option α) : g94 m p136 m137 m138 m139 p140 p141 m142 u143 k148 =
    (g67 m) p136 m137 m138 m139 p140 p141 m142 u143
      (fun x144 x145 x146 =>
        k148 (x144 == (0 : Int)) x145 x146) := by kernel_rfl

theorem g95_o {α : Type} (m : Nat) (u154 : List Int) (k156 : Bool → Option α) : g95 m u154 k156 =
    k156 (eqLI u154 [0, 0, 0, 0, 0, 0]) := by kernel_rfl

theorem g52_o {α : Type} (m : Nat) (q152 : Bool) (u153 : List Int) (k159 : Bool → Option α) : g52 m q152 u153 k159 =
    cond q152
     (
      (g95 m) u153
        (fun b157 =>
        k159 (!b157)))
     (
      k159 false) := by kernel_rfl

theorem g50l0_s {α : Type} (q : Nat) (v90 : Int) (m92 : Nat) (m93 : Nat) (m94 : Nat) (m97 : Nat) (a98 : List Int) (c99 : Bool) (a100 : List Int) (k131 : Int → Int → (List Int) → Option α) (m : Nat) (v91 : Int) (v95 : Int) (v96 : Int) (a101 : List Int) : g50l0 (g67 q) v90 m92 m93 m94 m97 a98 c99 a100 k131 (m + 1) v91 v95 v96 a101 =
    cond (decide (v91 < v90))
     (
      (g67 q) (4 : Int) m92 m93 m94 v95 v96 m97 a98
        (fun x103 x104 x105 =>
        cond (x103 == (0 : Int))
        (
        (g67 q) (60000 : Int) m92 m93 m94 x104 x105 m97 a98
        (fun x107 x108 x109 =>
        if 0 ≤ v91 ∧ v91 < (6 : Nat) then
        if v91.toNat < 6 then
        (g50l0 (g67 q) v90 m92 m93 m94 m97 a98 c99 a100 k131 m) (IntKind.wrap .i64 (v91 + (1 : Int))) x108 x109 (List.set a101 (v91.toNat) (IntKind.wrap .u32 ((IntKind.wrap .u32 x107) * (65521 : Int))))
        else
        none
        else
        none))
        (
        cond (x103 == (1 : Int))
        (
        if 0 ≤ v91 ∧ v91 < (6 : Nat) then
        if v91.toNat < 6 then
        (g50l0 (g67 q) v90 m92 m93 m94 m97 a98 c99 a100 k131 m) (IntKind.wrap .i64 (v91 + (1 : Int))) x104 x105 (List.set a101 (v91.toNat) (4294967295 : Int))
        else
        none
        else
        none)
        (
        cond (x103 == (2 : Int))
        (
        (g67 q) (5 : Int) m92 m93 m94 x104 x105 m97 a98
        (fun x118 x119 x120 =>
        if 0 ≤ v91 ∧ v91 < (6 : Nat) then
        if v91.toNat < 6 then
        (g50l0 (g67 q) v90 m92 m93 m94 m97 a98 c99 a100 k131 m) (IntKind.wrap .i64 (v91 + (1 : Int))) x119 x120 (List.set a101 (v91.toNat) (IntKind.wrap .u32 x118))
        else
        none
        else
        none))
        (
        (g67 q) (32 : Int) m92 m93 m94 x104 x105 m97 a98
        (fun x124 x125 x126 =>
        let x127 : Int := IntKind.wrap .u64 x124
        if x127 < 0 then
        none
        else
        if 0 ≤ v91 ∧ v91 < (6 : Nat) then
        if v91.toNat < 6 then
        (g50l0 (g67 q) v90 m92 m93 m94 m97 a98 c99 a100 k131 m) (IntKind.wrap .i64 (v91 + (1 : Int))) x125 x126 (List.set a101 (v91.toNat) (IntKind.wrap .u32 ((1 : Int) * 2 ^ (min x127.toNat 32))))
        else
        none
        else
        none))))))
     (
      k131 v95 v96 a101) := by kernel_rfl
theorem g50l0_z {α : Type} (q : Nat) (v90 : Int) (m92 : Nat) (m93 : Nat) (m94 : Nat) (m97 : Nat) (a98 : List Int) (c99 : Bool) (a100 : List Int) (k131 : Int → Int → (List Int) → Option α) (v91 : Int) (v95 : Int) (v96 : Int) (a101 : List Int) : g50l0 (g67 q) v90 m92 m93 m94 m97 a98 c99 a100 k131 0 v91 v95 v96 a101 = none := by kernel_rfl
theorem g50_o {α : Type} (m : Nat) (m31 : Nat) (m32 : Nat) (m33 : Nat) (p34 : Int) (p35 : Int) (m36 : Nat) (u37 : List Int) (k161 : Bool → (List Int) → Int → Int → Option α) : g50 m m31 m32 m33 p34 p35 m36 u37 k161 =
    (g67 m) (7 : Int) m31 m32 m33 p34 p35 m36 u37
      (fun x87 x88 x89 =>
        g50l0 (g67 m) x87 m31 m32 m33 m36 u37 false [0, 0, 0, 0, 0, 0]
        (fun x133 x134 l135 =>
        (g94 m) (3 : Int) m31 m32 m33 x133 x134 m36 u37
        (fun b149 x150 x151 =>
        (g52 m) b149 l135
        (fun b160 =>
        k161 b160 l135 x150 x151)))
        m (0 : Int) x88 x89 [0, 0, 0, 0, 0, 0]) := by kernel_rfl

theorem g11_o {α : Type} (m : Nat) (m20 : Nat) (m21 : Nat) (m22 : Nat) (m23 : Nat) (u24 : List Int) (k166 : Bool → (List Int) → Option α) : g11 m m20 m21 m22 m23 u24 k166 =
    (g51 m) m20 m21 m22 m23 u24
      (
        (g50 m) m20 m21 m22 (0 : Int) (0 : Int) m23 u24
        (fun b162 l163 x164 x165 =>
        k166 b162 l163)) := by kernel_rfl

theorem g12_o {α : Type} (m : Nat) (m169 : Nat) (m170 : Nat) (m171 : Nat) (m172 : Nat) (u173 : List Int) (k183 : Bool → (List Int) → Option α) : g12 m m169 m170 m171 m172 u173 k183 =
    (g51 m) m169 m170 m171 m172 u173
      (
        (g50 m) m169 m170 m171 (0 : Int) (0 : Int) m172 u173
        (fun b174 l175 x176 x177 =>
        let x178 : Int := List.getD l175 0 0
        let x179 : Int := List.getD l175 1 0
        let x181 : Int := Int.fdiv (List.getD l175 2 0) (2 ^ 6)
        (g52 m) b174 [x178, x179, x181, 0, 0, 0]
        (fun b182 =>
        k183 b182 [x178, x179, x181, 0, 0, 0]))) := by kernel_rfl

theorem g53_o {α : Type} (m : Nat) (q191 : Bool) (u192 : List Int) (k195 : Bool → Option α) : g53 m q191 u192 k195 =
    cond (!q191)
     (
      k195 true)
     (
      k195 (!(eqLI u192 [0, 0, 0, 0, 0, 0]))) := by kernel_rfl

theorem g54_o {α : Type} (m : Nat) (q200 : Bool) (u201 : List Int) (k203 : Int → Option α) : g54 m q200 u201 k203 =
    cond q200
     (
      k203 (-1 : Int))
     (
      cond (eqLI u201 [0, 0, 0, 0, 0, 0])
       (
        k203 (0 : Int))
       (
        k203 (1 : Int))) := by kernel_rfl

theorem g125_o {α : Type} (m : Nat) (p220 : Int) (k243 : Int → Option α) : g125 m p220 k243 =
    cond (decide (p220 ≥ (65536 : Int)))
     (
      let x222 : Int := Int.fdiv p220 (2 ^ 16)
      cond (decide (x222 ≥ (256 : Int)))
       (
        let x225 : Int := IntKind.wrap .u8 (Int.fdiv x222 (2 ^ 8))
        if 0 ≤ x225 ∧ x225 < strC0.size then
        k243 (IntKind.wrap .i64 ((24 : Int) + (IntKind.wrap .i64 (byteAt strC0 x225.toNat))))
        else
        none)
       (
        let x229 : Int := IntKind.wrap .u8 x222
        if 0 ≤ x229 ∧ x229 < strC0.size then
        k243 (IntKind.wrap .i64 ((16 : Int) + (IntKind.wrap .i64 (byteAt strC0 x229.toNat))))
        else
        none))
     (
      cond (decide (p220 ≥ (256 : Int)))
       (
        let x235 : Int := IntKind.wrap .u8 (Int.fdiv p220 (2 ^ 8))
        if 0 ≤ x235 ∧ x235 < strC0.size then
        k243 (IntKind.wrap .i64 ((8 : Int) + (IntKind.wrap .i64 (byteAt strC0 x235.toNat))))
        else
        none)
       (
        let x239 : Int := IntKind.wrap .u8 p220
        if 0 ≤ x239 ∧ x239 < strC0.size then
        k243 (IntKind.wrap .i64 ((0 : Int) + (IntKind.wrap .i64 (byteAt strC0 x239.toNat))))
        else
        none)) := by kernel_rfl

theorem g107l0_s {α : Type} (q : Nat) (a214 : List Int) (k247 : Int → Option α) (k248 : Option α) (m : Nat) (v213 : Int) : g107l0 (g125 q) a214 k247 k248 (m + 1) v213 =
    cond (decide (v213 ≥ (0 : Int)))
     (
      if 0 ≤ v213 ∧ v213 < (6 : Nat) then
        if v213.toNat < 6 then
        cond ((List.getD a214 v213.toNat 0) != (0 : Int))
        (
        if 0 ≤ v213 ∧ v213 < (6 : Nat) then
        if v213.toNat < 6 then
        (g125 q) (List.getD a214 v213.toNat 0)
        (fun x244 =>
        k247 (IntKind.wrap .i64 ((IntKind.wrap .i64 ((32 : Int) * v213)) + x244)))
        else
        none
        else
        none)
        (
        (g107l0 (g125 q) a214 k247 k248 m) (IntKind.wrap .i64 (v213 - (1 : Int))))
        else
        none
      else
        none)
     (
      k248) := by kernel_rfl
theorem g107l0_z {α : Type} (q : Nat) (a214 : List Int) (k247 : Int → Option α) (k248 : Option α) (v213 : Int) : g107l0 (g125 q) a214 k247 k248 0 v213 = none := by kernel_rfl
theorem g107_o {α : Type} (m : Nat) (u212 : List Int) (k251 : Int → Option α) : g107 m u212 k251 =
    g107l0 (g125 m) u212
      (fun x250 =>
        k251 x250)
      (
        k251 (0 : Int))
      m (5 : Int) := by kernel_rfl

theorem g122l0_s {α : Type} (v259 : Int) (a263 : List Int) (k276 : Int → (List Int) → Option α) (m : Nat) (v260 : Int) (v261 : Int) (a262 : List Int) : g122l0 v259 a263 k276 (m + 1) v260 v261 a262 =
    cond (decide (v261 ≥ (0 : Int)))
     (
      if 0 ≤ v261 ∧ v261 < (6 : Nat) then
        if v261.toNat < 6 then
        let x268 : Int := ibits .or .u64 (IntKind.wrap .u64 (v260 * 2 ^ 32)) (IntKind.wrap .u64 (List.getD a262 v261.toNat 0))
        let x269 : Int := IntKind.wrap .u64 v259
        if x269 = 0 then
        none
        else
        if 0 ≤ v261 ∧ v261 < (6 : Nat) then
        if v261.toNat < 6 then
        let x273 : Int := IntKind.wrap .u64 v259
        if x273 = 0 then
        none
        else
        (g122l0 v259 a263 k276 m) (Int.tmod x268 x273) (IntKind.wrap .i64 (v261 - (1 : Int))) (List.set a262 (v261.toNat) (IntKind.wrap .u32 (IntKind.wrap .u64 (Int.tdiv x268 x269))))
        else
        none
        else
        none
        else
        none
      else
        none)
     (
      k276 v260 a262) := by kernel_rfl
theorem g122l0_z {α : Type} (v259 : Int) (a263 : List Int) (k276 : Int → (List Int) → Option α) (v260 : Int) (v261 : Int) (a262 : List Int) : g122l0 v259 a263 k276 0 v260 v261 a262 = none := by kernel_rfl
theorem g122_o {α : Type} (m : Nat) (u257 : List Int) (p258 : Int) (k281 : (List Int) → Int → Option α) : g122 m u257 p258 k281 =
    g122l0 p258 [0, 0, 0, 0, 0, 0]
      (fun x278 l279 =>
        k281 l279 (IntKind.wrap .u32 x278))
      m (0 : Int) (5 : Int) u257 := by kernel_rfl

theorem g89l0_s {α : Type} (a287 : List Int) (a288 : List Int) (k297 : Int → Option α) (k298 : Option α) (m : Nat) (v286 : Int) : g89l0 a287 a288 k297 k298 (m + 1) v286 =
    cond (decide (v286 ≥ (0 : Int)))
     (
      if 0 ≤ v286 ∧ v286 < (6 : Nat) then
        if v286.toNat < 6 then
        if 0 ≤ v286 ∧ v286 < (6 : Nat) then
        if v286.toNat < 6 then
        cond ((List.getD a287 v286.toNat 0) != (List.getD a288 v286.toNat 0))
        (
        if 0 ≤ v286 ∧ v286 < (6 : Nat) then
        if v286.toNat < 6 then
        if 0 ≤ v286 ∧ v286 < (6 : Nat) then
        if v286.toNat < 6 then
        cond (decide ((List.getD a287 v286.toNat 0) < (List.getD a288 v286.toNat 0)))
        (
        k297 (-1 : Int))
        (
        k297 (1 : Int))
        else
        none
        else
        none
        else
        none
        else
        none)
        (
        (g89l0 a287 a288 k297 k298 m) (IntKind.wrap .i64 (v286 - (1 : Int))))
        else
        none
        else
        none
        else
        none
      else
        none)
     (
      k298) := by kernel_rfl
theorem g89l0_z {α : Type} (a287 : List Int) (a288 : List Int) (k297 : Int → Option α) (k298 : Option α) (v286 : Int) : g89l0 a287 a288 k297 k298 0 v286 = none := by kernel_rfl
theorem g89_o {α : Type} (m : Nat) (u284 : List Int) (u285 : List Int) (k301 : Int → Option α) : g89 m u284 u285 k301 =
    g89l0 u284 u285
      (fun x300 =>
        k301 x300)
      (
        k301 (0 : Int))
      m (5 : Int) := by kernel_rfl

theorem g123_o {α : Type} (m : Nat) (p306 : Int) (k309 : Int → Option α) : g123 m p306 k309 =
    (g125 m) p306
      (fun x307 =>
        k309 (IntKind.wrap .i64 ((32 : Int) - x307))) := by kernel_rfl

theorem g108l0_s {α : Type} (v315 : Int) (v316 : Int) (a318 : List Int) (a319 : List Int) (k339 : (List Int) → Option α) (m : Nat) (v317 : Int) (a320 : List Int) : g108l0 v315 v316 a318 a319 k339 (m + 1) v317 a320 =
    cond (decide (v317 ≥ v315))
     (
      let x322 : Int := IntKind.wrap .i64 (v317 - v315)
      if 0 ≤ x322 ∧ x322 < (6 : Nat) then
        if x322.toNat < 6 then
        if v316 < 0 then
        none
        else
        if 0 ≤ v317 ∧ v317 < (6 : Nat) then
        if v317.toNat < 6 then
        let l325 : List Int := List.set a320 (v317.toNat) (IntKind.wrap .u32 ((List.getD a318 x322.toNat 0) * 2 ^ (min v316.toNat 32)))
        cond (decide (v316 > (0 : Int)))
        (
        cond (decide (v317 > v315))
        (
        if 0 ≤ v317 ∧ v317 < (6 : Nat) then
        if v317.toNat < 6 then
        let x330 : Int := IntKind.wrap .i64 ((IntKind.wrap .i64 (v317 - v315)) - (1 : Int))
        if 0 ≤ x330 ∧ x330 < (6 : Nat) then
        if x330.toNat < 6 then
        let x332 : Int := IntKind.wrap .i64 ((32 : Int) - v316)
        if x332 < 0 then
        none
        else
        if 0 ≤ v317 ∧ v317 < (6 : Nat) then
        if v317.toNat < 6 then
        (g108l0 v315 v316 a318 a319 k339 m) (IntKind.wrap .i64 (v317 - (1 : Int))) (List.set l325 (v317.toNat) (ibits .or .u32 (List.getD l325 v317.toNat 0) (Int.fdiv (List.getD a318 x330.toNat 0) (2 ^ (min x332.toNat 32)))))
        else
        none
        else
        none
        else
        none
        else
        none
        else
        none
        else
        none)
        (
        (g108l0 v315 v316 a318 a319 k339 m) (IntKind.wrap .i64 (v317 - (1 : Int))) l325))
        (
        (g108l0 v315 v316 a318 a319 k339 m) (IntKind.wrap .i64 (v317 - (1 : Int))) l325)
        else
        none
        else
        none
        else
        none
      else
        none)
     (
      k339 a320) := by kernel_rfl
theorem g108l0_z {α : Type} (v315 : Int) (v316 : Int) (a318 : List Int) (a319 : List Int) (k339 : (List Int) → Option α) (v317 : Int) (a320 : List Int) : g108l0 v315 v316 a318 a319 k339 0 v317 a320 = none := by kernel_rfl
theorem g108_o {α : Type} (m : Nat) (u311 : List Int) (p312 : Int) (k342 : (List Int) → Option α) : g108 m u311 p312 k342 =
    g108l0 (IntKind.wrap .i64 (Int.tdiv p312 (32 : Int))) (Int.tmod p312 (32 : Int)) u311 [0, 0, 0, 0, 0, 0]
      (fun l341 =>
        k342 l341)
      m (5 : Int) [0, 0, 0, 0, 0, 0] := by kernel_rfl

theorem g124l0_s {α : Type} (m390 : Nat) (m391 : Nat) (m392 : Nat) (m393 : Nat) (m394 : Nat) (m395 : Nat) (v396 : Int) (a399 : List Int) (a400 : List Int) (k427 : Int → Option α) (m : Nat) (v397 : Int) (v398 : Int) : g124l0 m390 m391 m392 m393 m394 m395 v396 a399 a400 k427 (m + 1) v397 v398 =
    cond ((Int.fdiv v397 (2 ^ 32)) != (0 : Int))
     (
      let x403 : Int := IntKind.wrap .u64 (v397 - (1 : Int))
      let x404 : Int := IntKind.wrap .i64 (v396 - (1 : Int))
      if 0 ≤ x404 ∧ x404 < (m394 : Nat) then
        if (m393 + x404.toNat) < 6 then
        let x407 : Int := IntKind.wrap .u64 (v398 + (IntKind.wrap .u64 (List.getD a400 (m393 + x404.toNat) 0)))
        cond ((Int.fdiv x407 (2 ^ 32)) != (0 : Int))
        (
        k427 x403)
        (
        (g124l0 m390 m391 m392 m393 m394 m395 v396 a399 a400 k427 m) x403 x407)
        else
        none
      else
        none)
     (
      let x410 : Int := IntKind.wrap .i64 (v396 - (2 : Int))
      if 0 ≤ x410 ∧ x410 < (m394 : Nat) then
        if (m393 + x410.toNat) < 6 then
        let x415 : Int := IntKind.wrap .i64 (v396 - (2 : Int))
        if 0 ≤ x415 ∧ x415 < (m391 : Nat) then
        if (m390 + x415.toNat) < 7 then
        cond (decide ((IntKind.wrap .u64 (v397 * (IntKind.wrap .u64 (List.getD a400 (m393 + x410.toNat) 0)))) > (ibits .or .u64 (IntKind.wrap .u64 (v398 * 2 ^ 32)) (IntKind.wrap .u64 (List.getD a399 (m390 + x415.toNat) 0)))))
        (
        let x420 : Int := IntKind.wrap .u64 (v397 - (1 : Int))
        let x421 : Int := IntKind.wrap .i64 (v396 - (1 : Int))
        if 0 ≤ x421 ∧ x421 < (m394 : Nat) then
        if (m393 + x421.toNat) < 6 then
        let x424 : Int := IntKind.wrap .u64 (v398 + (IntKind.wrap .u64 (List.getD a400 (m393 + x421.toNat) 0)))
        cond ((Int.fdiv x424 (2 ^ 32)) != (0 : Int))
        (
        k427 x420)
        (
        (g124l0 m390 m391 m392 m393 m394 m395 v396 a399 a400 k427 m) x420 x424)
        else
        none
        else
        none)
        (
        k427 v397)
        else
        none
        else
        none
        else
        none
      else
        none) := by kernel_rfl
theorem g124l0_z {α : Type} (m390 : Nat) (m391 : Nat) (m392 : Nat) (m393 : Nat) (m394 : Nat) (m395 : Nat) (v396 : Int) (a399 : List Int) (a400 : List Int) (k427 : Int → Option α) (v397 : Int) (v398 : Int) : g124l0 m390 m391 m392 m393 m394 m395 v396 a399 a400 k427 0 v397 v398 = none := by kernel_rfl
theorem g124l2_s {α : Type} (m430 : Nat) (m431 : Nat) (m432 : Nat) (m433 : Nat) (m434 : Nat) (m435 : Nat) (v436 : Int) (v437 : Int) (v440 : Int) (a443 : List Int) (k459 : Int → Int → (List Int) → Option α) (m : Nat) (v438 : Int) (v439 : Int) (v441 : Int) (a442 : List Int) : g124l2 m430 m431 m432 m433 m434 m435 v436 v437 v440 a443 k459 (m + 1) v438 v439 v441 a442 =
    cond (decide (v441 < v440))
     (
      if 0 ≤ v441 ∧ v441 < (m434 : Nat) then
        if (m433 + v441.toNat) < 6 then
        let x448 : Int := IntKind.wrap .u64 (v439 + (IntKind.wrap .u64 (v437 * (IntKind.wrap .u64 (List.getD a443 (m433 + v441.toNat) 0)))))
        if 0 ≤ v441 ∧ v441 < (m431 : Nat) then
        if (m430 + v441.toNat) < 7 then
        let x453 : Int := IntKind.wrap .u64 ((IntKind.wrap .u64 ((IntKind.wrap .u64 (List.getD a442 (m430 + v441.toNat) 0)) - (ibits .and .u64 x448 (4294967295 : Int)))) - v438)
        if 0 ≤ v441 ∧ v441 < (m431 : Nat) then
        if (m430 + v441.toNat) < 7 then
        (g124l2 m430 m431 m432 m433 m434 m435 v436 v437 v440 a443 k459 m) (Int.fdiv x453 (2 ^ 63)) (Int.fdiv x448 (2 ^ 32)) (IntKind.wrap .i64 (v441 + (1 : Int))) (List.set a442 (m430 + v441.toNat) (IntKind.wrap .u32 x453))
        else
        none
        else
        none
        else
        none
        else
        none
        else
        none
      else
        none)
     (
      k459 v438 v439 a442) := by kernel_rfl
theorem g124l2_z {α : Type} (m430 : Nat) (m431 : Nat) (m432 : Nat) (m433 : Nat) (m434 : Nat) (m435 : Nat) (v436 : Int) (v437 : Int) (v440 : Int) (a443 : List Int) (k459 : Int → Int → (List Int) → Option α) (v438 : Int) (v439 : Int) (v441 : Int) (a442 : List Int) : g124l2 m430 m431 m432 m433 m434 m435 v436 v437 v440 a443 k459 0 v438 v439 v441 a442 = none := by kernel_rfl
theorem g124l4_s {α : Type} (m473 : Nat) (m474 : Nat) (m475 : Nat) (m476 : Nat) (m477 : Nat) (m478 : Nat) (v479 : Int) (v480 : Int) (v482 : Int) (a485 : List Int) (k497 : Int → (List Int) → Option α) (m : Nat) (v481 : Int) (v483 : Int) (a484 : List Int) : g124l4 m473 m474 m475 m476 m477 m478 v479 v480 v482 a485 k497 (m + 1) v481 v483 a484 =
    cond (decide (v483 < v482))
     (
      if 0 ≤ v483 ∧ v483 < (m474 : Nat) then
        if (m473 + v483.toNat) < 7 then
        if 0 ≤ v483 ∧ v483 < (m477 : Nat) then
        if (m476 + v483.toNat) < 6 then
        let x492 : Int := IntKind.wrap .u64 (v481 + (IntKind.wrap .u64 ((IntKind.wrap .u64 (List.getD a484 (m473 + v483.toNat) 0)) + (IntKind.wrap .u64 (List.getD a485 (m476 + v483.toNat) 0)))))
        if 0 ≤ v483 ∧ v483 < (m474 : Nat) then
        if (m473 + v483.toNat) < 7 then
        (g124l4 m473 m474 m475 m476 m477 m478 v479 v480 v482 a485 k497 m) (Int.fdiv x492 (2 ^ 32)) (IntKind.wrap .i64 (v483 + (1 : Int))) (List.set a484 (m473 + v483.toNat) (IntKind.wrap .u32 x492))
        else
        none
        else
        none
        else
        none
        else
        none
        else
        none
      else
        none)
     (
      k497 v481 a484) := by kernel_rfl
theorem g124l4_z {α : Type} (m473 : Nat) (m474 : Nat) (m475 : Nat) (m476 : Nat) (m477 : Nat) (m478 : Nat) (v479 : Int) (v480 : Int) (v482 : Int) (a485 : List Int) (k497 : Int → (List Int) → Option α) (v481 : Int) (v483 : Int) (a484 : List Int) : g124l4 m473 m474 m475 m476 m477 m478 v479 v480 v482 a485 k497 0 v481 v483 a484 = none := by kernel_rfl
theorem g124_o {α : Type} (m : Nat) (m367 : Nat) (m368 : Nat) (m369 : Nat) (m370 : Nat) (m371 : Nat) (m372 : Nat) (u373 : List Int) (u374 : List Int) (k507 : Int → (List Int) → Option α) : g124 m m367 m368 m369 m370 m371 m372 u373 u374 k507 =
    if 0 ≤ ((m371 : Nat) : Int) ∧ ((m371 : Nat) : Int) < (m368 : Nat) then
      if (m367 + ((m371 : Nat) : Int).toNat) < 7 then
        let x378 : Int := IntKind.wrap .i64 (((m371 : Nat) : Int) - (1 : Int))
        if 0 ≤ x378 ∧ x378 < (m368 : Nat) then
        if (m367 + x378.toNat) < 7 then
        let x381 : Int := ibits .or .u64 (IntKind.wrap .u64 ((IntKind.wrap .u64 (List.getD u373 (m367 + ((m371 : Nat) : Int).toNat) 0)) * 2 ^ 32)) (IntKind.wrap .u64 (List.getD u373 (m367 + x378.toNat) 0))
        let x382 : Int := IntKind.wrap .i64 (((m371 : Nat) : Int) - (1 : Int))
        if 0 ≤ x382 ∧ x382 < (m371 : Nat) then
        if (m370 + x382.toNat) < 6 then
        let x384 : Int := IntKind.wrap .u64 (List.getD u374 (m370 + x382.toNat) 0)
        if x384 = 0 then
        none
        else
        let x386 : Int := IntKind.wrap .i64 (((m371 : Nat) : Int) - (1 : Int))
        if 0 ≤ x386 ∧ x386 < (m371 : Nat) then
        if (m370 + x386.toNat) < 6 then
        let x388 : Int := IntKind.wrap .u64 (List.getD u374 (m370 + x386.toNat) 0)
        if x388 = 0 then
        none
        else
        g124l0 m367 m368 m369 m370 m371 m372 ((m371 : Nat) : Int) u373 u374
        (fun x429 =>
        g124l2 m367 m368 m369 m370 m371 m372 ((m371 : Nat) : Int) x429 ((m371 : Nat) : Int) u374
        (fun x461 x462 l463 =>
        if 0 ≤ ((m371 : Nat) : Int) ∧ ((m371 : Nat) : Int) < (m368 : Nat) then
        if (m367 + ((m371 : Nat) : Int).toNat) < 7 then
        let x467 : Int := IntKind.wrap .u64 ((IntKind.wrap .u64 ((IntKind.wrap .u64 (List.getD l463 (m367 + ((m371 : Nat) : Int).toNat) 0)) - x462)) - x461)
        if 0 ≤ ((m371 : Nat) : Int) ∧ ((m371 : Nat) : Int) < (m368 : Nat) then
        if (m367 + ((m371 : Nat) : Int).toNat) < 7 then
        let l469 : List Int := List.set l463 (m367 + ((m371 : Nat) : Int).toNat) (IntKind.wrap .u32 x467)
        cond ((Int.fdiv x467 (2 ^ 63)) == (0 : Int))
        (
        k507 (IntKind.wrap .u32 x429) l469)
        (
        g124l4 m367 m368 m369 m370 m371 m372 ((m371 : Nat) : Int) x429 ((m371 : Nat) : Int) u374
        (fun x499 l500 =>
        if 0 ≤ ((m371 : Nat) : Int) ∧ ((m371 : Nat) : Int) < (m368 : Nat) then
        if (m367 + ((m371 : Nat) : Int).toNat) < 7 then
        if 0 ≤ ((m371 : Nat) : Int) ∧ ((m371 : Nat) : Int) < (m368 : Nat) then
        if (m367 + ((m371 : Nat) : Int).toNat) < 7 then
        k507 (IntKind.wrap .u32 (IntKind.wrap .u64 (x429 - (1 : Int)))) (List.set l500 (m367 + ((m371 : Nat) : Int).toNat) (IntKind.wrap .u32 ((List.getD l500 (m367 + ((m371 : Nat) : Int).toNat) 0) + (IntKind.wrap .u32 x499))))
        else
        none
        else
        none
        else
        none
        else
        none)
        m (0 : Int) (0 : Int) l469)
        else
        none
        else
        none
        else
        none
        else
        none)
        m (0 : Int) (0 : Int) (0 : Int) u373)
        m (IntKind.wrap .u64 (Int.tdiv x381 x384)) (Int.tmod x381 x388)
        else
        none
        else
        none
        else
        none
        else
        none
        else
        none
        else
        none
      else
        none
    else
      none := by kernel_rfl

theorem g109l0_s {α : Type} (v521 : Int) (v522 : Int) (a524 : List Int) (a525 : List Int) (k548 : (List Int) → Option α) (m : Nat) (v523 : Int) (a526 : List Int) : g109l0 v521 v522 a524 a525 k548 (m + 1) v523 a526 =
    cond (decide ((IntKind.wrap .i64 (v523 + v521)) < (6 : Int)))
     (
      let x529 : Int := IntKind.wrap .i64 (v523 + v521)
      if 0 ≤ x529 ∧ x529 < (6 : Nat) then
        if x529.toNat < 6 then
        if v522 < 0 then
        none
        else
        if 0 ≤ v523 ∧ v523 < (6 : Nat) then
        if v523.toNat < 6 then
        let l532 : List Int := List.set a526 (v523.toNat) (Int.fdiv (List.getD a524 x529.toNat 0) (2 ^ (min v522.toNat 32)))
        cond (decide (v522 > (0 : Int)))
        (
        cond (decide ((IntKind.wrap .i64 ((IntKind.wrap .i64 (v523 + v521)) + (1 : Int))) < (6 : Int)))
        (
        if 0 ≤ v523 ∧ v523 < (6 : Nat) then
        if v523.toNat < 6 then
        let x539 : Int := IntKind.wrap .i64 ((IntKind.wrap .i64 (v523 + v521)) + (1 : Int))
        if 0 ≤ x539 ∧ x539 < (6 : Nat) then
        if x539.toNat < 6 then
        let x541 : Int := IntKind.wrap .i64 ((32 : Int) - v522)
        if x541 < 0 then
        none
        else
        if 0 ≤ v523 ∧ v523 < (6 : Nat) then
        if v523.toNat < 6 then
        (g109l0 v521 v522 a524 a525 k548 m) (IntKind.wrap .i64 (v523 + (1 : Int))) (List.set l532 (v523.toNat) (ibits .or .u32 (List.getD l532 v523.toNat 0) (IntKind.wrap .u32 ((List.getD a524 x539.toNat 0) * 2 ^ (min x541.toNat 32)))))
        else
        none
        else
        none
        else
        none
        else
        none
        else
        none
        else
        none)
        (
        (g109l0 v521 v522 a524 a525 k548 m) (IntKind.wrap .i64 (v523 + (1 : Int))) l532))
        (
        (g109l0 v521 v522 a524 a525 k548 m) (IntKind.wrap .i64 (v523 + (1 : Int))) l532)
        else
        none
        else
        none
        else
        none
      else
        none)
     (
      k548 a526) := by kernel_rfl
theorem g109l0_z {α : Type} (v521 : Int) (v522 : Int) (a524 : List Int) (a525 : List Int) (k548 : (List Int) → Option α) (v523 : Int) (a526 : List Int) : g109l0 v521 v522 a524 a525 k548 0 v523 a526 = none := by kernel_rfl
theorem g109_o {α : Type} (m : Nat) (u517 : List Int) (p518 : Int) (k551 : (List Int) → Option α) : g109 m u517 p518 k551 =
    g109l0 (IntKind.wrap .i64 (Int.tdiv p518 (32 : Int))) (Int.tmod p518 (32 : Int)) u517 [0, 0, 0, 0, 0, 0]
      (fun l550 =>
        k551 l550)
      m (0 : Int) [0, 0, 0, 0, 0, 0] := by kernel_rfl

theorem g96l0_s {α : Type} (q : Nat) (v352 : Int) (v353 : Int) (a355 : List Int) (a356 : List Int) (a357 : List Int) (k512 : (List Int) → (List Int) → Option α) (m : Nat) (v354 : Int) (a358 : List Int) (a359 : List Int) : g96l0 (g124 q) v352 v353 a355 a356 a357 k512 (m + 1) v354 a358 a359 =
    cond (decide (v354 ≥ (0 : Int)))
     (
      let x362 : Int := IntKind.wrap .i64 ((IntKind.wrap .i64 (v354 + v352)) + (1 : Int))
      if 0 ≤ v354 ∧ v354 ≤ x362 ∧ x362 ≤ ((7 : Nat) : Int) then
        if 0 ≤ (0 : Int) ∧ (0 : Int) ≤ v352 ∧ v352 ≤ ((6 : Nat) : Int) then
        (g124 q) (cond (Nat.beq 7 (Int.toNat v354)) 0 (Int.toNat v354)) ((Int.toNat x362) - (Int.toNat v354)) (7 - (Int.toNat v354)) 0 ((Int.toNat v352) - 0) 6 a358 a357
        (fun x508 l509 =>
        if 0 ≤ v354 ∧ v354 < (6 : Nat) then
        if v354.toNat < 6 then
        (g96l0 (g124 q) v352 v353 a355 a356 a357 k512 m) (IntKind.wrap .i64 (v354 - (1 : Int))) l509 (List.set a359 (v354.toNat) x508)
        else
        none
        else
        none)
        else
        none
      else
        none)
     (
      k512 a358 a359) := by kernel_rfl
theorem g96l0_z {α : Type} (q : Nat) (v352 : Int) (v353 : Int) (a355 : List Int) (a356 : List Int) (a357 : List Int) (k512 : (List Int) → (List Int) → Option α) (v354 : Int) (a358 : List Int) (a359 : List Int) : g96l0 (g124 q) v352 v353 a355 a356 a357 k512 0 v354 a358 a359 = none := by kernel_rfl
theorem g96_o {α : Type} (m : Nat) (u210 : List Int) (u211 : List Int) (k558 : (List Int) → (List Int) → Option α) : g96 m u210 u211 k558 =
    (g107 m) u211
      (fun x252 =>
        let x254 : Int := IntKind.wrap .i64 (Int.tdiv (IntKind.wrap .i64 (x252 + (31 : Int))) (32 : Int))
        cond (x254 == (1 : Int))
        (
        (g122 m) u210 (List.getD u211 0 0)
        (fun l282 x283 =>
        k558 l282 [x283, 0, 0, 0, 0, 0]))
        (
        (g89 m) u210 u211
        (fun x302 =>
        cond (decide (x302 < (0 : Int)))
        (
        k558 [0, 0, 0, 0, 0, 0] u210)
        (
        let x304 : Int := IntKind.wrap .i64 (x254 - (1 : Int))
        if 0 ≤ x304 ∧ x304 < (6 : Nat) then
        if x304.toNat < 6 then
        (g123 m) (List.getD u211 x304.toNat 0)
        (fun x310 =>
        (g108 m) u211 x310
        (fun l343 =>
        (g108 m) u210 x310
        (fun l344 =>
        let l345 : List Int := List.take 0 [0, 0, 0, 0, 0, 0, 0] ++ (List.take 6 (List.drop 0 l344) ++ List.drop (0 + 6) [0, 0, 0, 0, 0, 0, 0])
        cond (decide (x310 > (0 : Int)))
        (
        let x348 : Int := IntKind.wrap .i64 ((32 : Int) - x310)
        if x348 < 0 then
        none
        else
        g96l0 (g124 m) x254 x310 [0, 0, 0, 0, 0, 0] [0, 0, 0, 0, 0, 0] l343
        (fun l514 l515 =>
        (g109 m) (List.take 0 [0, 0, 0, 0, 0, 0] ++ (List.take 6 (List.drop 0 l514) ++ List.drop (0 + 6) [0, 0, 0, 0, 0, 0])) x310
        (fun l552 =>
        k558 l515 l552))
        m (IntKind.wrap .i64 ((6 : Int) - x254)) (List.set l345 6 (Int.fdiv (List.getD u210 5 0) (2 ^ (min x348.toNat 32)))) [0, 0, 0, 0, 0, 0])
        (
        g96l0 (g124 m) x254 x310 [0, 0, 0, 0, 0, 0] [0, 0, 0, 0, 0, 0] l343
        (fun l554 l555 =>
        (g109 m) (List.take 0 [0, 0, 0, 0, 0, 0] ++ (List.take 6 (List.drop 0 l554) ++ List.drop (0 + 6) [0, 0, 0, 0, 0, 0])) x310
        (fun l557 =>
        k558 l555 l557))
        m (IntKind.wrap .i64 ((6 : Int) - x254)) l345 [0, 0, 0, 0, 0, 0]))))
        else
        none
        else
        none)))) := by kernel_rfl

theorem g98_o {α : Type} (m : Nat)  (k563 : (List Int) → Option α) : g98 m  k563 =
    k563 [(1 : Int), 0, 0, 0, 0, 0] := by kernel_rfl

theorem g97l0_s {α : Type} (a570 : List Int) (a571 : List Int) (k583 : Int → (List Int) → Option α) (m : Nat) (v567 : Int) (v568 : Int) (a569 : List Int) : g97l0 a570 a571 k583 (m + 1) v567 v568 a569 =
    cond (decide (v568 < (6 : Int)))
     (
      if 0 ≤ v568 ∧ v568 < (6 : Nat) then
        if v568.toNat < 6 then
        if 0 ≤ v568 ∧ v568 < (6 : Nat) then
        if v568.toNat < 6 then
        let x578 : Int := IntKind.wrap .u64 (v567 + (IntKind.wrap .u64 ((IntKind.wrap .u64 (List.getD a569 v568.toNat 0)) + (IntKind.wrap .u64 (List.getD a570 v568.toNat 0)))))
        if 0 ≤ v568 ∧ v568 < (6 : Nat) then
        if v568.toNat < 6 then
        (g97l0 a570 a571 k583 m) (Int.fdiv x578 (2 ^ 32)) (IntKind.wrap .i64 (v568 + (1 : Int))) (List.set a569 (v568.toNat) (IntKind.wrap .u32 x578))
        else
        none
        else
        none
        else
        none
        else
        none
        else
        none
      else
        none)
     (
      k583 v567 a569) := by kernel_rfl
theorem g97l0_z {α : Type} (a570 : List Int) (a571 : List Int) (k583 : Int → (List Int) → Option α) (v567 : Int) (v568 : Int) (a569 : List Int) : g97l0 a570 a571 k583 0 v567 v568 a569 = none := by kernel_rfl
theorem g97_o {α : Type} (m : Nat) (u565 : List Int) (u566 : List Int) (k588 : (List Int) → Bool → Option α) : g97 m u565 u566 k588 =
    g97l0 u566 [0, 0, 0, 0, 0, 0]
      (fun x585 l586 =>
        k588 l586 (x585 != (0 : Int)))
      m (0 : Int) (0 : Int) u565 := by kernel_rfl

theorem g99l0_s {α : Type} (a596 : List Int) (a597 : List Int) (k609 : (List Int) → Option α) (m : Nat) (v593 : Int) (v594 : Int) (a595 : List Int) : g99l0 a596 a597 k609 (m + 1) v593 v594 a595 =
    cond (decide (v594 < (6 : Int)))
     (
      if 0 ≤ v594 ∧ v594 < (6 : Nat) then
        if v594.toNat < 6 then
        if 0 ≤ v594 ∧ v594 < (6 : Nat) then
        if v594.toNat < 6 then
        let x604 : Int := IntKind.wrap .u64 ((IntKind.wrap .u64 ((IntKind.wrap .u64 (List.getD a595 v594.toNat 0)) - (IntKind.wrap .u64 (List.getD a596 v594.toNat 0)))) - v593)
        if 0 ≤ v594 ∧ v594 < (6 : Nat) then
        if v594.toNat < 6 then
        (g99l0 a596 a597 k609 m) (Int.fdiv x604 (2 ^ 63)) (IntKind.wrap .i64 (v594 + (1 : Int))) (List.set a595 (v594.toNat) (IntKind.wrap .u32 x604))
        else
        none
        else
        none
        else
        none
        else
        none
        else
        none
      else
        none)
     (
      k609 a595) := by kernel_rfl
theorem g99l0_z {α : Type} (a596 : List Int) (a597 : List Int) (k609 : (List Int) → Option α) (v593 : Int) (v594 : Int) (a595 : List Int) : g99l0 a596 a597 k609 0 v593 v594 a595 = none := by kernel_rfl
theorem g99_o {α : Type} (m : Nat) (u591 : List Int) (u592 : List Int) (k612 : (List Int) → Option α) : g99 m u591 u592 k612 =
    g99l0 u592 [0, 0, 0, 0, 0, 0]
      (fun l611 =>
        k612 l611)
      m (0 : Int) (0 : Int) u591 := by kernel_rfl

theorem g64_o {α : Type} (m : Nat) (q615 : Bool) (u616 : List Int) (k618 : Bool → Option α) : g64 m q615 u616 k618 =
    cond q615
     (
      k618 (!(eqLI u616 [0, 0, 0, 0, 0, 0])))
     (
      k618 false) := by kernel_rfl

theorem g55_o {α : Type} (m : Nat) (q206 : Bool) (u207 : List Int) (q208 : Bool) (u209 : List Int) (k627 : Bool → (List Int) → Bool → (List Int) → Option α) : g55 m q206 u207 q208 u209 k627 =
    (g96 m) u207 u209
      (fun l559 l560 =>
        cond (!(q206 == q208))
        (
        cond (!(eqLI l560 [0, 0, 0, 0, 0, 0]))
        (
        (g98 m)
        (fun l564 =>
        (g97 m) l559 l564
        (fun l589 b590 =>
        (g99 m) u209 l560
        (fun l613 =>
        (g64 m) (!(q206 == q208)) l589
        (fun b619 =>
        (g64 m) q208 l613
        (fun b620 =>
        k627 b619 l589 b620 l613))))))
        (
        (g64 m) (!(q206 == q208)) l559
        (fun b622 =>
        (g64 m) q208 l560
        (fun b623 =>
        k627 b622 l559 b623 l560))))
        (
        (g64 m) (!(q206 == q208)) l559
        (fun b625 =>
        (g64 m) q208 l560
        (fun b626 =>
        k627 b625 l559 b626 l560)))) := by kernel_rfl

theorem g13_o {α : Type} (m : Nat) (q187 : Bool) (u188 : List Int) (q189 : Bool) (u190 : List Int) (k632 : Bool → (List Int) → Bool → (List Int) → Int → Option α) : g13 m q187 u188 q189 u190 k632 =
    (g53 m) q187 u188
      (fun b196 =>
        cond (!b196)
        (
        k632 false [0, 0, 0, 0, 0, 0] false [0, 0, 0, 0, 0, 0] (1 : Int))
        (
        (g53 m) q189 u190
        (fun b198 =>
        cond (!b198)
        (
        k632 false [0, 0, 0, 0, 0, 0] false [0, 0, 0, 0, 0, 0] (1 : Int))
        (
        (g54 m) q189 u190
        (fun x204 =>
        cond (x204 == (0 : Int))
        (
        k632 false [0, 0, 0, 0, 0, 0] false [0, 0, 0, 0, 0, 0] (4 : Int))
        (
        (g55 m) q187 u188 q189 u190
        (fun b628 l629 b630 l631 =>
        k632 b628 l629 b630 l631 (0 : Int)))))))) := by kernel_rfl

theorem g19_o {α : Type} (m : Nat) (p660 : Int) (k674 : Bool → (List Int) → Option α) : g19 m p660 k674 =
    let x661 : Int := IntKind.wrap .u64 p660
    cond (decide (p660 < (0 : Int)))
     (
      let x663 : Int := IntKind.wrap .u64 (0 - x661)
      let x665 : Int := IntKind.wrap .u32 x663
      let x667 : Int := IntKind.wrap .u32 (Int.fdiv x663 (2 ^ 32))
      (g64 m) (decide (p660 < (0 : Int))) [x665, x667, 0, 0, 0, 0]
        (fun b668 =>
        k674 b668 [x665, x667, 0, 0, 0, 0]))
     (
      let x670 : Int := IntKind.wrap .u32 x661
      let x672 : Int := IntKind.wrap .u32 (Int.fdiv x661 (2 ^ 32))
      (g64 m) (decide (p660 < (0 : Int))) [x670, x672, 0, 0, 0, 0]
        (fun b673 =>
        k674 b673 [x670, x672, 0, 0, 0, 0])) := by kernel_rfl

theorem g62_o {α : Type} (m : Nat) (q677 : Bool) (u678 : List Int) (q679 : Bool) (u680 : List Int) (q681 : Bool) (k693 : Bool → (List Int) → Bool → Option α) : g62 m q677 u678 q679 u680 q681 k693 =
    cond (q677 == q679)
     (
      (g97 m) u678 u680
        (fun l683 b684 =>
        cond q681
        (
        (g64 m) q677 l683
        (fun b685 =>
        k693 b685 l683 true))
        (
        (g64 m) q677 l683
        (fun b686 =>
        k693 b686 l683 b684))))
     (
      (g89 m) u678 u680
        (fun x687 =>
        cond (decide (x687 < (0 : Int)))
        (
        (g99 m) u680 u678
        (fun l689 =>
        (g64 m) q679 l689
        (fun b690 =>
        k693 b690 l689 q681)))
        (
        (g99 m) u678 u680
        (fun l691 =>
        (g64 m) q677 l691
        (fun b692 =>
        k693 b692 l691 q681))))) := by kernel_rfl

theorem g57_o {α : Type} (m : Nat) (q648 : Bool) (u649 : List Int) (q650 : Bool) (u651 : List Int) (q652 : Bool) (k697 : Bool → (List Int) → Bool → Option α) : g57 m q648 u649 q650 u651 q652 k697 =
    (g55 m) q648 u649 q650 u651
      (fun b653 l654 b655 l656 =>
        (g99 m) u651 l656
        (fun l657 =>
        (g89 m) l656 l657
        (fun x658 =>
        cond (decide (x658 < (0 : Int)))
        (
        k697 b653 l654 q652)
        (
        (g19 m) (1 : Int)
        (fun b675 l676 =>
        (g62 m) b653 l654 b675 l676 q652
        (fun b694 l695 b696 =>
        k697 b694 l695 b696)))))) := by kernel_rfl

theorem g56_o {α : Type} (m : Nat) (q701 : Bool) (u702 : List Int) (q703 : Bool) (k704 : Bool → (List Int) → Int → Option α) : g56 m q701 u702 q703 k704 =
    cond q703
     (
      k704 false [0, 0, 0, 0, 0, 0] (3 : Int))
     (
      k704 q701 u702 (0 : Int)) := by kernel_rfl

theorem g14_o {α : Type} (m : Nat) (q638 : Bool) (u639 : List Int) (q640 : Bool) (u641 : List Int) (k708 : Bool → (List Int) → Int → Option α) : g14 m q638 u639 q640 u641 k708 =
    (g53 m) q638 u639
      (fun b642 =>
        cond (!b642)
        (
        k708 false [0, 0, 0, 0, 0, 0] (1 : Int))
        (
        (g53 m) q640 u641
        (fun b644 =>
        cond (!b644)
        (
        k708 false [0, 0, 0, 0, 0, 0] (1 : Int))
        (
        (g54 m) q640 u641
        (fun x646 =>
        cond (x646 == (0 : Int))
        (
        k708 false [0, 0, 0, 0, 0, 0] (4 : Int))
        (
        (g57 m) q638 u639 q640 u641 false
        (fun b698 l699 b700 =>
        (g56 m) b698 l699 b700
        (fun b705 l706 x707 =>
        k708 b705 l706 x707)))))))) := by kernel_rfl

theorem g58_o {α : Type} (m : Nat) (q723 : Bool) (u724 : List Int) (k727 : Bool → Option α) : g58 m q723 u724 k727 =
    cond (!q723)
     (
      k727 true)
     (
      k727 (!(eqLI u724 [0, 0, 0, 0, 0, 0]))) := by kernel_rfl

theorem g59_o {α : Type} (m : Nat) (q732 : Bool) (u733 : List Int) (k735 : Int → Option α) : g59 m q732 u733 k735 =
    cond q732
     (
      k735 (-1 : Int))
     (
      cond (eqLI u733 [0, 0, 0, 0, 0, 0])
       (
        k735 (0 : Int))
       (
        k735 (1 : Int))) := by kernel_rfl

theorem g116l2_s {α : Type} (v752 : Int) (a755 : List Int) (k759 : Int → Option α) (m : Nat) (v753 : Int) (v754 : Int) : g116l2 v752 a755 k759 (m + 1) v753 v754 =
    cond (decide (v754 > (0 : Int)))
     (
      (g116l2 v752 a755 k759 m) (IntKind.wrap .i64 (v753 + (1 : Int))) (Int.fdiv v754 (2 ^ 1)))
     (
      k759 v753) := by kernel_rfl
theorem g116l2_z {α : Type} (v752 : Int) (a755 : List Int) (k759 : Int → Option α) (v753 : Int) (v754 : Int) : g116l2 v752 a755 k759 0 v753 v754 = none := by kernel_rfl
theorem g116l0_s {α : Type} (q : Nat) (a746 : List Int) (k764 : Int → Option α) (k765 : Option α) (m : Nat) (v745 : Int) : g116l0 (g116l2M q) a746 k764 k765 (m + 1) v745 =
    cond (decide (v745 ≥ (0 : Int)))
     (
      if 0 ≤ v745 ∧ v745 < (6 : Nat) then
        if v745.toNat < 6 then
        cond ((List.getD a746 v745.toNat 0) == (0 : Int))
        (
        (g116l0 (g116l2M q) a746 k764 k765 m) (IntKind.wrap .i64 (v745 - (1 : Int))))
        (
        if 0 ≤ v745 ∧ v745 < (6 : Nat) then
        if v745.toNat < 6 then
        g116l2 v745 a746
        (fun x761 =>
        k764 (IntKind.wrap .i64 ((IntKind.wrap .i64 ((32 : Int) * v745)) + x761)))
        q (0 : Int) (List.getD a746 v745.toNat 0)
        else
        none
        else
        none)
        else
        none
      else
        none)
     (
      k765) := by kernel_rfl
theorem g116l0_z {α : Type} (q : Nat) (a746 : List Int) (k764 : Int → Option α) (k765 : Option α) (v745 : Int) : g116l0 (g116l2M q) a746 k764 k765 0 v745 = none := by kernel_rfl
theorem g116_o {α : Type} (m : Nat) (u744 : List Int) (k768 : Int → Option α) : g116 m u744 k768 =
    g116l0 (g116l2M m) u744
      (fun x767 =>
        k768 x767)
      (
        k768 (0 : Int))
      m (5 : Int) := by kernel_rfl

theorem g102l0_s {α : Type} (a817 : List Int) (a818 : List Int) (a819 : List Int) (k836 : (List Int) → Option α) (m : Nat) (v815 : Int) (v816 : Int) (a820 : List Int) : g102l0 a817 a818 a819 k836 (m + 1) v815 v816 a820 =
    cond (decide (v816 < (6 : Int)))
     (
      if 0 ≤ v816 ∧ v816 < (6 : Nat) then
        if v816.toNat < 6 then
        if 0 ≤ v816 ∧ v816 < (6 : Nat) then
        if v816.toNat < 6 then
        let x827 : Int := IntKind.wrap .i64 ((IntKind.wrap .i64 ((IntKind.wrap .i64 (List.getD a817 v816.toNat 0)) - (IntKind.wrap .i64 (List.getD a818 v816.toNat 0)))) - v815)
        cond (decide (x827 < (0 : Int)))
        (
        if 0 ≤ v816 ∧ v816 < (6 : Nat) then
        if v816.toNat < 6 then
        (g102l0 a817 a818 a819 k836 m) (1 : Int) (IntKind.wrap .i64 (v816 + (1 : Int))) (List.set a820 (v816.toNat) (IntKind.wrap .u32 (IntKind.wrap .i64 (x827 + (4294967296 : Int)))))
        else
        none
        else
        none)
        (
        if 0 ≤ v816 ∧ v816 < (6 : Nat) then
        if v816.toNat < 6 then
        (g102l0 a817 a818 a819 k836 m) (0 : Int) (IntKind.wrap .i64 (v816 + (1 : Int))) (List.set a820 (v816.toNat) (IntKind.wrap .u32 x827))
        else
        none
        else
        none)
        else
        none
        else
        none
        else
        none
      else
        none)
     (
      k836 a820) := by kernel_rfl
theorem g102l0_z {α : Type} (a817 : List Int) (a818 : List Int) (a819 : List Int) (k836 : (List Int) → Option α) (v815 : Int) (v816 : Int) (a820 : List Int) : g102l0 a817 a818 a819 k836 0 v815 v816 a820 = none := by kernel_rfl
theorem g102_o {α : Type} (m : Nat) (u813 : List Int) (u814 : List Int) (k839 : (List Int) → Option α) : g102 m u813 u814 k839 =
    g102l0 u813 u814 [0, 0, 0, 0, 0, 0]
      (fun l838 =>
        k839 l838)
      m (0 : Int) (0 : Int) [0, 0, 0, 0, 0, 0] := by kernel_rfl

theorem g105l0_s {α : Type} (a852 : List Int) (a853 : List Int) (k862 : Int → Option α) (k863 : Option α) (m : Nat) (v851 : Int) : g105l0 a852 a853 k862 k863 (m + 1) v851 =
    cond (decide (v851 ≥ (0 : Int)))
     (
      if 0 ≤ v851 ∧ v851 < (6 : Nat) then
        if v851.toNat < 6 then
        if 0 ≤ v851 ∧ v851 < (6 : Nat) then
        if v851.toNat < 6 then
        cond (decide ((List.getD a852 v851.toNat 0) < (List.getD a853 v851.toNat 0)))
        (
        k862 (-1 : Int))
        (
        if 0 ≤ v851 ∧ v851 < (6 : Nat) then
        if v851.toNat < 6 then
        if 0 ≤ v851 ∧ v851 < (6 : Nat) then
        if v851.toNat < 6 then
        cond (decide ((List.getD a852 v851.toNat 0) > (List.getD a853 v851.toNat 0)))
        (
        k862 (1 : Int))
        (
        (g105l0 a852 a853 k862 k863 m) (IntKind.wrap .i64 (v851 - (1 : Int))))
        else
        none
        else
        none
        else
        none
        else
        none)
        else
        none
        else
        none
        else
        none
      else
        none)
     (
      k863) := by kernel_rfl
theorem g105l0_z {α : Type} (a852 : List Int) (a853 : List Int) (k862 : Int → Option α) (k863 : Option α) (v851 : Int) : g105l0 a852 a853 k862 k863 0 v851 = none := by kernel_rfl
theorem g105_o {α : Type} (m : Nat) (u849 : List Int) (u850 : List Int) (k866 : Int → Option α) : g105 m u849 u850 k866 =
    g105l0 u849 u850
      (fun x865 =>
        k866 x865)
      (
        k866 (0 : Int))
      m (5 : Int) := by kernel_rfl

theorem g100l2_s {α : Type} (v781 : Int) (v782 : Int) (a784 : List Int) (a785 : List Int) (a786 : List Int) (a787 : List Int) (a788 : List Int) (k799 : (List Int) → Option α) (m : Nat) (v783 : Int) (a789 : List Int) : g100l2 v781 v782 a784 a785 a786 a787 a788 k799 (m + 1) v783 a789 =
    cond (decide (v783 > (0 : Int)))
     (
      if 0 ≤ v783 ∧ v783 < (6 : Nat) then
        if v783.toNat < 6 then
        let x793 : Int := IntKind.wrap .i64 (v783 - (1 : Int))
        if 0 ≤ x793 ∧ x793 < (6 : Nat) then
        if x793.toNat < 6 then
        if 0 ≤ v783 ∧ v783 < (6 : Nat) then
        if v783.toNat < 6 then
        (g100l2 v781 v782 a784 a785 a786 a787 a788 k799 m) (IntKind.wrap .i64 (v783 - (1 : Int))) (List.set a789 (v783.toNat) (ibits .or .u32 (IntKind.wrap .u32 ((List.getD a789 v783.toNat 0) * 2 ^ 1)) (Int.fdiv (List.getD a789 x793.toNat 0) (2 ^ 31))))
        else
        none
        else
        none
        else
        none
        else
        none
        else
        none
      else
        none)
     (
      k799 a789) := by kernel_rfl
theorem g100l2_z {α : Type} (v781 : Int) (v782 : Int) (a784 : List Int) (a785 : List Int) (a786 : List Int) (a787 : List Int) (a788 : List Int) (k799 : (List Int) → Option α) (v783 : Int) (a789 : List Int) : g100l2 v781 v782 a784 a785 a786 a787 a788 k799 0 v783 a789 = none := by kernel_rfl
theorem g100l0_s {α : Type} (q : Nat) (a772 : List Int) (a773 : List Int) (a774 : List Int) (a775 : List Int) (k879 : (List Int) → (List Int) → Option α) (m : Nat) (v771 : Int) (a776 : List Int) (a777 : List Int) : g100l0 (g102 q) (g105 q) (g100l2M q) a772 a773 a774 a775 k879 (m + 1) v771 a776 a777 =
    cond (decide (v771 ≥ (0 : Int)))
     (
      let x780 : Int := Int.fdiv (List.getD a777 5 0) (2 ^ 31)
      g100l2 v771 x780 a772 a773 a774 a775 a776
        (fun l801 =>
        let x804 : Int := IntKind.wrap .i64 (Int.tdiv v771 (32 : Int))
        if 0 ≤ x804 ∧ x804 < (6 : Nat) then
        if x804.toNat < 6 then
        let x807 : Int := IntKind.wrap .u64 (Int.tmod v771 (32 : Int))
        if x807 < 0 then
        none
        else
        let l811 : List Int := List.set l801 0 (ibits .or .u32 (IntKind.wrap .u32 ((List.getD l801 0 0) * 2 ^ 1)) (ibits .and .u32 (Int.fdiv (List.getD a772 x804.toNat 0) (2 ^ (min x807.toNat 32))) (1 : Int)))
        cond (x780 == (1 : Int))
        (
        (g102 q) l811 a773
        (fun l840 =>
        let x841 : Int := IntKind.wrap .i64 (Int.tdiv v771 (32 : Int))
        if 0 ≤ x841 ∧ x841 < (6 : Nat) then
        if x841.toNat < 6 then
        let x844 : Int := IntKind.wrap .u64 (Int.tmod v771 (32 : Int))
        if x844 < 0 then
        none
        else
        if 0 ≤ x841 ∧ x841 < (6 : Nat) then
        if x841.toNat < 6 then
        (g100l0 (g102 q) (g105 q) (g100l2M q) a772 a773 a774 a775 k879 m) (IntKind.wrap .i64 (v771 - (1 : Int))) (List.set a776 (x841.toNat) (ibits .or .u32 (List.getD a776 x841.toNat 0) (IntKind.wrap .u32 ((1 : Int) * 2 ^ (min x844.toNat 32))))) l840
        else
        none
        else
        none
        else
        none
        else
        none))
        (
        (g105 q) l811 a773
        (fun x867 =>
        cond (decide (x867 ≥ (0 : Int)))
        (
        (g102 q) l811 a773
        (fun l869 =>
        let x870 : Int := IntKind.wrap .i64 (Int.tdiv v771 (32 : Int))
        if 0 ≤ x870 ∧ x870 < (6 : Nat) then
        if x870.toNat < 6 then
        let x873 : Int := IntKind.wrap .u64 (Int.tmod v771 (32 : Int))
        if x873 < 0 then
        none
        else
        if 0 ≤ x870 ∧ x870 < (6 : Nat) then
        if x870.toNat < 6 then
        (g100l0 (g102 q) (g105 q) (g100l2M q) a772 a773 a774 a775 k879 m) (IntKind.wrap .i64 (v771 - (1 : Int))) (List.set a776 (x870.toNat) (ibits .or .u32 (List.getD a776 x870.toNat 0) (IntKind.wrap .u32 ((1 : Int) * 2 ^ (min x873.toNat 32))))) l869
        else
        none
        else
        none
        else
        none
        else
        none))
        (
        (g100l0 (g102 q) (g105 q) (g100l2M q) a772 a773 a774 a775 k879 m) (IntKind.wrap .i64 (v771 - (1 : Int))) a776 l811)))
        else
        none
        else
        none)
        q (5 : Int) a777)
     (
      k879 a776 a777) := by kernel_rfl
theorem g100l0_z {α : Type} (q : Nat) (a772 : List Int) (a773 : List Int) (a774 : List Int) (a775 : List Int) (k879 : (List Int) → (List Int) → Option α) (v771 : Int) (a776 : List Int) (a777 : List Int) : g100l0 (g102 q) (g105 q) (g100l2M q) a772 a773 a774 a775 k879 0 v771 a776 a777 = none := by kernel_rfl
theorem g100_o {α : Type} (m : Nat) (u742 : List Int) (u743 : List Int) (k883 : (List Int) → (List Int) → Option α) : g100 m u742 u743 k883 =
    (g116 m) u742
      (fun x769 =>
        g100l0 (g102 m) (g105 m) (g100l2M m) u742 u743 [0, 0, 0, 0, 0, 0] [0, 0, 0, 0, 0, 0]
        (fun l881 l882 =>
        k883 l881 l882)
        m (IntKind.wrap .i64 (x769 - (1 : Int))) [0, 0, 0, 0, 0, 0] [0, 0, 0, 0, 0, 0]) := by kernel_rfl

theorem g101l0_s {α : Type} (a893 : List Int) (a894 : List Int) (a895 : List Int) (k908 : Int → (List Int) → Option α) (m : Nat) (v891 : Int) (v892 : Int) (a896 : List Int) : g101l0 a893 a894 a895 k908 (m + 1) v891 v892 a896 =
    cond (decide (v892 < (6 : Int)))
     (
      if 0 ≤ v892 ∧ v892 < (6 : Nat) then
        if v892.toNat < 6 then
        if 0 ≤ v892 ∧ v892 < (6 : Nat) then
        if v892.toNat < 6 then
        let x903 : Int := IntKind.wrap .u64 ((IntKind.wrap .u64 ((IntKind.wrap .u64 (List.getD a893 v892.toNat 0)) + (IntKind.wrap .u64 (List.getD a894 v892.toNat 0)))) + v891)
        if 0 ≤ v892 ∧ v892 < (6 : Nat) then
        if v892.toNat < 6 then
        (g101l0 a893 a894 a895 k908 m) (Int.fdiv x903 (2 ^ 32)) (IntKind.wrap .i64 (v892 + (1 : Int))) (List.set a896 (v892.toNat) (IntKind.wrap .u32 x903))
        else
        none
        else
        none
        else
        none
        else
        none
        else
        none
      else
        none)
     (
      k908 v891 a896) := by kernel_rfl
theorem g101l0_z {α : Type} (a893 : List Int) (a894 : List Int) (a895 : List Int) (k908 : Int → (List Int) → Option α) (v891 : Int) (v892 : Int) (a896 : List Int) : g101l0 a893 a894 a895 k908 0 v891 v892 a896 = none := by kernel_rfl
theorem g101_o {α : Type} (m : Nat) (u889 : List Int) (u890 : List Int) (k913 : (List Int) → Bool → Option α) : g101 m u889 u890 k913 =
    g101l0 u889 u890 [0, 0, 0, 0, 0, 0]
      (fun x910 l911 =>
        k913 l911 (x910 == (0 : Int)))
      m (0 : Int) (0 : Int) [0, 0, 0, 0, 0, 0] := by kernel_rfl

theorem g60_o {α : Type} (m : Nat) (q738 : Bool) (u739 : List Int) (q740 : Bool) (u741 : List Int) (k926 : Bool → (List Int) → Bool → (List Int) → Option α) : g60 m q738 u739 q740 u741 k926 =
    (g100 m) u739 u741
      (fun l884 l885 =>
        cond (!(q738 == q740))
        (
        (g95 m) l885
        (fun b887 =>
        cond (!b887)
        (
        (g101 m) l884 [(1 : Int), 0, 0, 0, 0, 0]
        (fun l914 b915 =>
        (g102 m) u741 l885
        (fun l916 =>
        (g52 m) (!(q738 == q740)) l914
        (fun b918 =>
        (g52 m) q740 l916
        (fun b919 =>
        k926 b918 l914 b919 l916)))))
        (
        (g52 m) (!(q738 == q740)) l884
        (fun b921 =>
        (g52 m) q740 l885
        (fun b922 =>
        k926 b921 l884 b922 l885)))))
        (
        (g52 m) (!(q738 == q740)) l884
        (fun b924 =>
        (g52 m) q740 l885
        (fun b925 =>
        k926 b924 l884 b925 l885)))) := by kernel_rfl

theorem g15_o {α : Type} (m : Nat) (q719 : Bool) (u720 : List Int) (q721 : Bool) (u722 : List Int) (k931 : Bool → (List Int) → Bool → (List Int) → Int → Option α) : g15 m q719 u720 q721 u722 k931 =
    (g58 m) q719 u720
      (fun b728 =>
        cond (!b728)
        (
        k931 false [0, 0, 0, 0, 0, 0] false [0, 0, 0, 0, 0, 0] (1 : Int))
        (
        (g58 m) q721 u722
        (fun b730 =>
        cond (!b730)
        (
        k931 false [0, 0, 0, 0, 0, 0] false [0, 0, 0, 0, 0, 0] (1 : Int))
        (
        (g59 m) q721 u722
        (fun x736 =>
        cond (x736 == (0 : Int))
        (
        k931 false [0, 0, 0, 0, 0, 0] false [0, 0, 0, 0, 0, 0] (4 : Int))
        (
        (g60 m) q719 u720 q721 u722
        (fun b927 l928 b929 l930 =>
        k931 b927 l928 b929 l930 (0 : Int)))))))) := by kernel_rfl

theorem g103l2_s {α : Type} (v967 : Int) (v968 : Int) (a970 : List Int) (v971 : Int) (a972 : List Int) (a974 : List Int) (a975 : List Int) (k992 : Int → (List Int) → Option α) (m : Nat) (v969 : Int) (v973 : Int) (a976 : List Int) : g103l2 v967 v968 a970 v971 a972 a974 a975 k992 (m + 1) v969 v973 a976 =
    cond (decide (v973 < (6 : Int)))
     (
      if 0 ≤ v973 ∧ v973 < (6 : Nat) then
        let x982 : Int := IntKind.wrap .i64 (v967 + v973)
        if 0 ≤ x982 ∧ x982 < (12 : Nat) then
        if x982.toNat < 12 then
        let x986 : Int := IntKind.wrap .u64 (v969 + (IntKind.wrap .u64 ((IntKind.wrap .u64 ((IntKind.wrap .u64 v968) * (IntKind.wrap .u64 (List.getD a972 v973.toNat 0)))) + (IntKind.wrap .u64 (List.getD a976 x982.toNat 0)))))
        let x987 : Int := IntKind.wrap .i64 (v967 + v973)
        if 0 ≤ x987 ∧ x987 < (12 : Nat) then
        if x987.toNat < 12 then
        (g103l2 v967 v968 a970 v971 a972 a974 a975 k992 m) (Int.fdiv x986 (2 ^ 32)) (IntKind.wrap .i64 (v973 + (1 : Int))) (List.set a976 (x987.toNat) (IntKind.wrap .u32 x986))
        else
        none
        else
        none
        else
        none
        else
        none
      else
        none)
     (
      k992 v969 a976) := by kernel_rfl
theorem g103l2_z {α : Type} (v967 : Int) (v968 : Int) (a970 : List Int) (v971 : Int) (a972 : List Int) (a974 : List Int) (a975 : List Int) (k992 : Int → (List Int) → Option α) (v969 : Int) (v973 : Int) (a976 : List Int) : g103l2 v967 v968 a970 v971 a972 a974 a975 k992 0 v969 v973 a976 = none := by kernel_rfl
theorem g103l0_s {α : Type} (q : Nat) (a960 : List Int) (a962 : List Int) (a963 : List Int) (k1000 : (List Int) → Option α) (m : Nat) (v961 : Int) (a964 : List Int) : g103l0 (g103l2M q) a960 a962 a963 k1000 (m + 1) v961 a964 =
    cond (decide (v961 < (6 : Int)))
     (
      if 0 ≤ v961 ∧ v961 < (6 : Nat) then
        g103l2 v961 (List.getD a960 v961.toNat 0) a960 v961 a962 a962 a963
        (fun x994 l995 =>
        let x996 : Int := IntKind.wrap .i64 (v961 + (6 : Int))
        if 0 ≤ x996 ∧ x996 < (12 : Nat) then
        if x996.toNat < 12 then
        (g103l0 (g103l2M q) a960 a962 a963 k1000 m) (IntKind.wrap .i64 (v961 + (1 : Int))) (List.set l995 (x996.toNat) (IntKind.wrap .u32 x994))
        else
        none
        else
        none)
        q (0 : Int) (0 : Int) a964
      else
        none)
     (
      k1000 a964) := by kernel_rfl
theorem g103l0_z {α : Type} (q : Nat) (a960 : List Int) (a962 : List Int) (a963 : List Int) (k1000 : (List Int) → Option α) (v961 : Int) (a964 : List Int) : g103l0 (g103l2M q) a960 a962 a963 k1000 0 v961 a964 = none := by kernel_rfl
theorem g103l4_s {α : Type} (m1003 : Nat) (m1004 : Nat) (m1005 : Nat) (v1006 : Int) (a1008 : List Int) (a1009 : List Int) (k1014 : (List Int) → Option α) (k1015 : Option α) (m : Nat) (v1007 : Int) : g103l4 m1003 m1004 m1005 v1006 a1008 a1009 k1014 k1015 (m + 1) v1007 =
    cond (decide (v1007 < v1006))
     (
      if 0 ≤ v1007 ∧ v1007 < (m1004 : Nat) then
        if (m1003 + v1007.toNat) < 12 then
        cond ((List.getD a1009 (m1003 + v1007.toNat) 0) != (0 : Int))
        (
        k1014 [0, 0, 0, 0, 0, 0])
        (
        (g103l4 m1003 m1004 m1005 v1006 a1008 a1009 k1014 k1015 m) (IntKind.wrap .i64 (v1007 + (1 : Int))))
        else
        none
      else
        none)
     (
      k1015) := by kernel_rfl
theorem g103l4_z {α : Type} (m1003 : Nat) (m1004 : Nat) (m1005 : Nat) (v1006 : Int) (a1008 : List Int) (a1009 : List Int) (k1014 : (List Int) → Option α) (k1015 : Option α) (v1007 : Int) : g103l4 m1003 m1004 m1005 v1006 a1008 a1009 k1014 k1015 0 v1007 = none := by kernel_rfl
theorem g103_o {α : Type} (m : Nat) (u958 : List Int) (u959 : List Int) (k1019 : (List Int) → Bool → Option α) : g103 m u958 u959 k1019 =
    g103l0 (g103l2M m) u958 u959 [0, 0, 0, 0, 0, 0]
      (fun l1002 =>
        g103l4 6 6 6 (6 : Int) [0, 0, 0, 0, 0, 0] l1002
        (fun l1017 =>
        k1019 l1017 true)
        (
        k1019 (List.take 6 (List.drop 0 l1002)) false)
        m (0 : Int))
      m (0 : Int) [0, 0, 0, 0, 0, 0, 0, 0, 0, 0, 0, 0] := by kernel_rfl

theorem g61_o {α : Type} (m : Nat) (q953 : Bool) (u954 : List Int) (q955 : Bool) (u956 : List Int) (q957 : Bool) (k1026 : Bool → (List Int) → Bool → Option α) : g61 m q953 u954 q955 u956 q957 k1026 =
    (g103 m) u954 u956
      (fun l1020 b1021 =>
        cond q957
        (
        (g64 m) (!(q953 == q955)) l1020
        (fun b1023 =>
        k1026 b1023 l1020 true))
        (
        (g64 m) (!(q953 == q955)) l1020
        (fun b1025 =>
        k1026 b1025 l1020 b1021))) := by kernel_rfl

theorem g16_o {α : Type} (m : Nat) (q945 : Bool) (u946 : List Int) (q947 : Bool) (u948 : List Int) (k1033 : Bool → (List Int) → Int → Option α) : g16 m q945 u946 q947 u948 k1033 =
    (g53 m) q945 u946
      (fun b949 =>
        cond (!b949)
        (
        k1033 false [0, 0, 0, 0, 0, 0] (1 : Int))
        (
        (g53 m) q947 u948
        (fun b951 =>
        cond (!b951)
        (
        k1033 false [0, 0, 0, 0, 0, 0] (1 : Int))
        (
        (g61 m) q945 u946 q947 u948 false
        (fun b1027 l1028 b1029 =>
        (g56 m) b1027 l1028 b1029
        (fun b1030 l1031 x1032 =>
        k1033 b1030 l1031 x1032)))))) := by kernel_rfl

theorem g17_o {α : Type} (m : Nat) (q1038 : Bool) (u1039 : List Int) (q1040 : Bool) (u1041 : List Int) (k1052 : Bool → (List Int) → Int → Option α) : g17 m q1038 u1039 q1040 u1041 k1052 =
    (g53 m) q1038 u1039
      (fun b1042 =>
        cond (!b1042)
        (
        k1052 false [0, 0, 0, 0, 0, 0] (1 : Int))
        (
        (g53 m) q1040 u1041
        (fun b1044 =>
        cond (!b1044)
        (
        k1052 false [0, 0, 0, 0, 0, 0] (1 : Int))
        (
        (g62 m) q1038 u1039 q1040 u1041 false
        (fun b1046 l1047 b1048 =>
        (g56 m) b1046 l1047 b1048
        (fun b1049 l1050 x1051 =>
        k1052 b1049 l1050 x1051)))))) := by kernel_rfl

theorem g104_o {α : Type} (m : Nat) (q1071 : Bool) (u1072 : List Int) (k1075 : Bool → Option α) : g104 m q1071 u1072 k1075 =
    (g64 m) (!q1071) u1072
      (fun b1074 =>
        k1075 b1074) := by kernel_rfl

theorem g63_o {α : Type} (m : Nat) (q1066 : Bool) (u1067 : List Int) (q1068 : Bool) (u1069 : List Int) (q1070 : Bool) (k1080 : Bool → (List Int) → Bool → Option α) : g63 m q1066 u1067 q1068 u1069 q1070 k1080 =
    (g104 m) q1068 u1069
      (fun b1076 =>
        (g62 m) q1066 u1067 b1076 u1069 q1070
        (fun b1077 l1078 b1079 =>
        k1080 b1077 l1078 b1079)) := by kernel_rfl

theorem g18_o {α : Type} (m : Nat) (q1058 : Bool) (u1059 : List Int) (q1060 : Bool) (u1061 : List Int) (k1087 : Bool → (List Int) → Int → Option α) : g18 m q1058 u1059 q1060 u1061 k1087 =
    (g53 m) q1058 u1059
      (fun b1062 =>
        cond (!b1062)
        (
        k1087 false [0, 0, 0, 0, 0, 0] (1 : Int))
        (
        (g53 m) q1060 u1061
        (fun b1064 =>
        cond (!b1064)
        (
        k1087 false [0, 0, 0, 0, 0, 0] (1 : Int))
        (
        (g63 m) q1058 u1059 q1060 u1061 false
        (fun b1081 l1082 b1083 =>
        (g56 m) b1081 l1082 b1083
        (fun b1084 l1085 x1086 =>
        k1087 b1084 l1085 x1086)))))) := by kernel_rfl

theorem g65_o {α : Type} (m : Nat) (q1106 : Bool) (u1107 : List Int) (q1108 : Bool) (u1109 : List Int) (k1121 : Bool → (List Int) → Int → Option α) : g65 m q1106 u1107 q1108 u1109 k1121 =
    cond (q1106 == q1108)
     (
      (g101 m) u1107 u1109
        (fun l1111 b1112 =>
        cond (!b1112)
        (
        k1121 false [0, 0, 0, 0, 0, 0] (3 : Int))
        (
        (g52 m) q1106 l1111
        (fun b1114 =>
        k1121 b1114 l1111 (0 : Int)))))
     (
      (g105 m) u1107 u1109
        (fun x1115 =>
        cond (decide (x1115 ≥ (0 : Int)))
        (
        (g102 m) u1107 u1109
        (fun l1117 =>
        (g52 m) q1106 l1117
        (fun b1118 =>
        k1121 b1118 l1117 (0 : Int))))
        (
        (g102 m) u1109 u1107
        (fun l1119 =>
        (g52 m) q1108 l1119
        (fun b1120 =>
        k1121 b1120 l1119 (0 : Int)))))) := by kernel_rfl

theorem g20_o {α : Type} (m : Nat) (q1098 : Bool) (u1099 : List Int) (q1100 : Bool) (u1101 : List Int) (k1125 : Bool → (List Int) → Int → Option α) : g20 m q1098 u1099 q1100 u1101 k1125 =
    (g58 m) q1098 u1099
      (fun b1102 =>
        cond (!b1102)
        (
        k1125 false [0, 0, 0, 0, 0, 0] (1 : Int))
        (
        (g58 m) q1100 u1101
        (fun b1104 =>
        cond (!b1104)
        (
        k1125 false [0, 0, 0, 0, 0, 0] (1 : Int))
        (
        (g65 m) q1098 u1099 q1100 u1101
        (fun b1122 l1123 x1124 =>
        k1125 b1122 l1123 x1124))))) := by kernel_rfl

theorem g66_o {α : Type} (m : Nat) (q1137 : Bool) (u1138 : List Int) (q1139 : Bool) (u1140 : List Int) (k1152 : Int → Option α) : g66 m q1137 u1138 q1139 u1140 k1152 =
    cond q1137
     (
      cond (!q1139)
       (
        k1152 (-1 : Int))
       (
        cond (!q1137)
        (
        cond q1139
        (
        k1152 (1 : Int))
        (
        cond q1137
        (
        (g105 m) u1140 u1138
        (fun x1143 =>
        k1152 x1143))
        (
        (g105 m) u1138 u1140
        (fun x1144 =>
        k1152 x1144))))
        (
        cond q1137
        (
        (g105 m) u1140 u1138
        (fun x1145 =>
        k1152 x1145))
        (
        (g105 m) u1138 u1140
        (fun x1146 =>
        k1152 x1146)))))
     (
      cond (!q1137)
       (
        cond q1139
        (
        k1152 (1 : Int))
        (
        cond q1137
        (
        (g105 m) u1140 u1138
        (fun x1148 =>
        k1152 x1148))
        (
        (g105 m) u1138 u1140
        (fun x1149 =>
        k1152 x1149))))
       (
        cond q1137
        (
        (g105 m) u1140 u1138
        (fun x1150 =>
        k1152 x1150))
        (
        (g105 m) u1138 u1140
        (fun x1151 =>
        k1152 x1151)))) := by kernel_rfl

theorem g21_o {α : Type} (m : Nat) (q1129 : Bool) (u1130 : List Int) (q1131 : Bool) (u1132 : List Int) (k1154 : Int → Int → Option α) : g21 m q1129 u1130 q1131 u1132 k1154 =
    (g58 m) q1129 u1130
      (fun b1133 =>
        cond (!b1133)
        (
        k1154 (0 : Int) (1 : Int))
        (
        (g58 m) q1131 u1132
        (fun b1135 =>
        cond (!b1135)
        (
        k1154 (0 : Int) (1 : Int))
        (
        (g66 m) q1129 u1130 q1131 u1132
        (fun x1153 =>
        k1154 x1153 (0 : Int)))))) := by kernel_rfl

theorem g22_o {α : Type} (m : Nat) (m1164 : Nat) (m1165 : Nat) (m1166 : Nat) (p1167 : Int) (m1168 : Nat) (u1169 : List Int) (k1173 : Int → Option α) : g22 m m1164 m1165 m1166 p1167 m1168 u1169 k1173 =
    (g51 m) m1164 m1165 m1166 m1168 u1169
      (
        (g67 m) p1167 m1164 m1165 m1166 (0 : Int) (0 : Int) m1168 u1169
        (fun x1170 x1171 x1172 =>
        k1173 x1170)) := by kernel_rfl

theorem g68_o {α : Type} (m : Nat) (p1182 : Int) (p1183 : Int) (p1184 : Int) (k1187 : Bool → Option α) : g68 m p1182 p1183 p1184 k1187 =
    cond (decide (p1182 ≥ p1183))
     (
      k1187 (decide (p1182 ≤ p1184)))
     (
      k1187 false) := by kernel_rfl

theorem g69_o {α : Type} (m : Nat) (q1190 : Bool) (u1191 : List Int) (p1192 : Int) (q1193 : Bool) (k1200 : Bool → (List Int) → Bool → Option α) : g69 m q1190 u1191 p1192 q1193 k1200 =
    cond (decide (p1192 > (191 : Int)))
     (
      k1200 false [0, 0, 0, 0, 0, 0] true)
     (
      (g107 m) u1191
        (fun x1195 =>
        cond (decide ((IntKind.wrap .i64 (x1195 + p1192)) > (192 : Int)))
        (
        k1200 false [0, 0, 0, 0, 0, 0] true)
        (
        (g108 m) u1191 p1192
        (fun l1198 =>
        (g64 m) q1190 l1198
        (fun b1199 =>
        k1200 b1199 l1198 q1193))))) := by kernel_rfl

theorem g23_o {α : Type} (m : Nat) (q1177 : Bool) (u1178 : List Int) (p1179 : Int) (k1207 : Bool → (List Int) → Int → Option α) : g23 m q1177 u1178 p1179 k1207 =
    (g53 m) q1177 u1178
      (fun b1180 =>
        cond (!b1180)
        (
        k1207 false [0, 0, 0, 0, 0, 0] (1 : Int))
        (
        (g68 m) p1179 (0 : Int) (191 : Int)
        (fun b1188 =>
        cond (!b1188)
        (
        k1207 false [0, 0, 0, 0, 0, 0] (2 : Int))
        (
        (g69 m) q1177 u1178 p1179 false
        (fun b1201 l1202 b1203 =>
        (g56 m) b1201 l1202 b1203
        (fun b1204 l1205 x1206 =>
        k1207 b1204 l1205 x1206)))))) := by kernel_rfl

theorem g70_o {α : Type} (m : Nat) (q1218 : Bool) (u1219 : List Int) (p1220 : Int) (q1221 : Bool) (k1244 : Bool → (List Int) → Bool → Option α) : g70 m q1218 u1219 p1220 q1221 k1244 =
    cond (decide (p1220 > (191 : Int)))
     (
      k1244 false [0, 0, 0, 0, 0, 0] true)
     (
      (g109 m) u1219 p1220
        (fun l1223 =>
        cond (p1220 == (0 : Int))
        (
        k1244 q1218 u1219 q1221)
        (
        (g98 m)
        (fun l1225 =>
        (g108 m) l1225 (IntKind.wrap .i64 (p1220 - (1 : Int)))
        (fun l1227 =>
        (g108 m) l1223 p1220
        (fun l1228 =>
        (g99 m) u1219 l1228
        (fun l1229 =>
        (g89 m) l1229 l1227
        (fun x1230 =>
        cond (decide (x1230 > (0 : Int)))
        (
        (g98 m)
        (fun l1232 =>
        (g97 m) l1223 l1232
        (fun l1233 b1234 =>
        (g64 m) q1218 l1233
        (fun b1235 =>
        k1244 b1235 l1233 q1221))))
        (
        cond (x1230 == (0 : Int))
        (
        cond (!q1218)
        (
        (g98 m)
        (fun l1238 =>
        (g97 m) l1223 l1238
        (fun l1239 b1240 =>
        (g64 m) q1218 l1239
        (fun b1241 =>
        k1244 b1241 l1239 q1221))))
        (
        (g64 m) q1218 l1223
        (fun b1242 =>
        k1244 b1242 l1223 q1221)))
        (
        (g64 m) q1218 l1223
        (fun b1243 =>
        k1244 b1243 l1223 q1221))))))))))) := by kernel_rfl

theorem g24_o {α : Type} (m : Nat) (q1211 : Bool) (u1212 : List Int) (p1213 : Int) (k1251 : Bool → (List Int) → Int → Option α) : g24 m q1211 u1212 p1213 k1251 =
    (g53 m) q1211 u1212
      (fun b1214 =>
        cond (!b1214)
        (
        k1251 false [0, 0, 0, 0, 0, 0] (1 : Int))
        (
        (g68 m) p1213 (0 : Int) (191 : Int)
        (fun b1216 =>
        cond (!b1216)
        (
        k1251 false [0, 0, 0, 0, 0, 0] (2 : Int))
        (
        (g70 m) q1211 u1212 p1213 false
        (fun b1245 l1246 b1247 =>
        (g56 m) b1245 l1246 b1247
        (fun b1248 l1249 x1250 =>
        k1251 b1248 l1249 x1250)))))) := by kernel_rfl

theorem g25l0_s {α : Type} (q : Nat) (c1267 : Bool) (a1268 : List Int) (c1269 : Bool) (a1270 : List Int) (k1279 : Bool → Bool → (List Int) → Option α) (m : Nat) (v1266 : Int) (c1271 : Bool) (c1272 : Bool) (a1273 : List Int) : g25l0 (g61 q) c1267 a1268 c1269 a1270 k1279 (m + 1) v1266 c1271 c1272 a1273 =
    cond (decide (v1266 > (0 : Int)))
     (
      (g61 q) c1272 a1273 c1267 a1268 c1271
        (fun b1275 l1276 b1277 =>
        (g25l0 (g61 q) c1267 a1268 c1269 a1270 k1279 m) (IntKind.wrap .i64 (v1266 - (1 : Int))) b1277 b1275 l1276))
     (
      k1279 c1271 c1272 a1273) := by kernel_rfl
theorem g25l0_z {α : Type} (q : Nat) (c1267 : Bool) (a1268 : List Int) (c1269 : Bool) (a1270 : List Int) (k1279 : Bool → Bool → (List Int) → Option α) (v1266 : Int) (c1271 : Bool) (c1272 : Bool) (a1273 : List Int) : g25l0 (g61 q) c1267 a1268 c1269 a1270 k1279 0 v1266 c1271 c1272 a1273 = none := by kernel_rfl
theorem g25_o {α : Type} (m : Nat) (q1257 : Bool) (u1258 : List Int) (p1259 : Int) (k1287 : Bool → (List Int) → Int → Option α) : g25 m q1257 u1258 p1259 k1287 =
    (g53 m) q1257 u1258
      (fun b1260 =>
        cond (!b1260)
        (
        k1287 false [0, 0, 0, 0, 0, 0] (1 : Int))
        (
        (g68 m) p1259 (0 : Int) (191 : Int)
        (fun b1262 =>
        cond (!b1262)
        (
        k1287 false [0, 0, 0, 0, 0, 0] (2 : Int))
        (
        (g19 m) (1 : Int)
        (fun b1264 l1265 =>
        g25l0 (g61 m) q1257 u1258 false [0, 0, 0, 0, 0, 0]
        (fun b1281 b1282 l1283 =>
        (g56 m) b1282 l1283 b1281
        (fun b1284 l1285 x1286 =>
        k1287 b1284 l1285 x1286))
        m p1259 false b1264 l1265))))) := by kernel_rfl

theorem g110_o {α : Type} (m : Nat) (p1318 : Int) (k1336 : Bool → (List Int) → Option α) : g110 m p1318 k1336 =
    let x1319 : Int := IntKind.wrap .u64 p1318
    cond (decide (p1318 < (0 : Int)))
     (
      let x1321 : Int := IntKind.wrap .u64 (0 - x1319)
      let l1326 : List Int := List.set (List.set [0, 0, 0, 0, 0, 0] 0 (IntKind.wrap .u32 x1321)) 1 (IntKind.wrap .u32 (Int.fdiv x1321 (2 ^ 32)))
      (g52 m) (decide (p1318 < (0 : Int))) l1326
        (fun b1328 =>
        k1336 b1328 l1326))
     (
      let l1333 : List Int := List.set (List.set [0, 0, 0, 0, 0, 0] 0 (IntKind.wrap .u32 x1319)) 1 (IntKind.wrap .u32 (Int.fdiv x1319 (2 ^ 32)))
      (g52 m) (decide (p1318 < (0 : Int))) l1333
        (fun b1335 =>
        k1336 b1335 l1333)) := by kernel_rfl

theorem g71_o {α : Type} (m : Nat) (q1307 : Bool) (u1308 : List Int) (q1309 : Bool) (u1310 : List Int) (k1342 : Bool → (List Int) → Option α) : g71 m q1307 u1308 q1309 u1310 k1342 =
    (g60 m) q1307 u1308 q1309 u1310
      (fun b1311 l1312 b1313 l1314 =>
        (g102 m) u1310 l1314
        (fun l1315 =>
        (g105 m) l1314 l1315
        (fun x1316 =>
        cond (decide (x1316 ≥ (0 : Int)))
        (
        (g110 m) (1 : Int)
        (fun b1337 l1338 =>
        (g65 m) b1311 l1312 b1337 l1338
        (fun b1339 l1340 x1341 =>
        k1342 b1339 l1340)))
        (
        k1342 b1311 l1312)))) := by kernel_rfl

theorem g26_o {α : Type} (m : Nat) (q1297 : Bool) (u1298 : List Int) (q1299 : Bool) (u1300 : List Int) (k1345 : Bool → (List Int) → Int → Option α) : g26 m q1297 u1298 q1299 u1300 k1345 =
    (g58 m) q1297 u1298
      (fun b1301 =>
        cond (!b1301)
        (
        k1345 false [0, 0, 0, 0, 0, 0] (1 : Int))
        (
        (g58 m) q1299 u1300
        (fun b1303 =>
        cond (!b1303)
        (
        k1345 false [0, 0, 0, 0, 0, 0] (1 : Int))
        (
        (g59 m) q1299 u1300
        (fun x1305 =>
        cond (x1305 == (0 : Int))
        (
        k1345 false [0, 0, 0, 0, 0, 0] (4 : Int))
        (
        (g71 m) q1297 u1298 q1299 u1300
        (fun b1343 l1344 =>
        k1345 b1343 l1344 (0 : Int)))))))) := by kernel_rfl

theorem g72l0_s {α : Type} (q : Nat) (a1367 : List Int) (a1368 : List Int) (k1383 : (List Int) → Option α) (m : Nat) (v1366 : Int) (a1369 : List Int) : g72l0 (g98 q) (g108 q) (g97 q) (g103 q) (g89 q) a1367 a1368 k1383 (m + 1) v1366 a1369 =
    cond (decide (v1366 ≥ (0 : Int)))
     (
      (g98 q)
        (fun l1371 =>
        (g108 q) l1371 v1366
        (fun l1372 =>
        (g97 q) a1369 l1372
        (fun l1373 b1374 =>
        (g103 q) l1373 l1373
        (fun l1375 b1376 =>
        cond (!b1376)
        (
        (g89 q) l1375 a1367
        (fun x1378 =>
        cond (decide (x1378 ≤ (0 : Int)))
        (
        (g72l0 (g98 q) (g108 q) (g97 q) (g103 q) (g89 q) a1367 a1368 k1383 m) (IntKind.wrap .i64 (v1366 - (1 : Int))) l1373)
        (
        (g72l0 (g98 q) (g108 q) (g97 q) (g103 q) (g89 q) a1367 a1368 k1383 m) (IntKind.wrap .i64 (v1366 - (1 : Int))) a1369)))
        (
        (g72l0 (g98 q) (g108 q) (g97 q) (g103 q) (g89 q) a1367 a1368 k1383 m) (IntKind.wrap .i64 (v1366 - (1 : Int))) a1369))))))
     (
      k1383 a1369) := by kernel_rfl
theorem g72l0_z {α : Type} (q : Nat) (a1367 : List Int) (a1368 : List Int) (k1383 : (List Int) → Option α) (v1366 : Int) (a1369 : List Int) : g72l0 (g98 q) (g108 q) (g97 q) (g103 q) (g89 q) a1367 a1368 k1383 0 v1366 a1369 = none := by kernel_rfl
theorem g72_o {α : Type} (m : Nat) (u1362 : List Int) (k1386 : (List Int) → Option α) : g72 m u1362 k1386 =
    (g107 m) u1362
      (fun x1363 =>
        g72l0 (g98 m) (g108 m) (g97 m) (g103 m) (g89 m) u1362 [0, 0, 0, 0, 0, 0]
        (fun l1385 =>
        k1386 l1385)
        m (IntKind.wrap .i64 (Int.tdiv (IntKind.wrap .i64 (x1363 + (1 : Int))) (2 : Int))) [0, 0, 0, 0, 0, 0]) := by kernel_rfl

theorem g27_o {α : Type} (m : Nat) (q1358 : Bool) (u1359 : List Int) (k1389 : Bool → (List Int) → Int → Option α) : g27 m q1358 u1359 k1389 =
    (g53 m) q1358 u1359
      (fun b1360 =>
        cond (!b1360)
        (
        k1389 false [0, 0, 0, 0, 0, 0] (1 : Int))
        (
        cond q1358
        (
        k1389 false [0, 0, 0, 0, 0, 0] (2 : Int))
        (
        (g72 m) u1359
        (fun l1387 =>
        (g64 m) false l1387
        (fun b1388 =>
        k1389 b1388 l1387 (0 : Int)))))) := by kernel_rfl

theorem g73_o {α : Type} (m : Nat) (q1412 : Bool) (u1413 : List Int) (q1414 : Bool) (u1415 : List Int) (k1423 : Int → Option α) : g73 m q1412 u1413 q1414 u1415 k1423 =
    cond (!(q1412 == q1414))
     (
      cond q1412
       (
        k1423 (-1 : Int))
       (
        cond (!(q1412 == q1414))
        (
        k1423 (1 : Int))
        (
        cond q1412
        (
        (g89 m) u1415 u1413
        (fun x1418 =>
        k1423 x1418))
        (
        (g89 m) u1413 u1415
        (fun x1419 =>
        k1423 x1419)))))
     (
      cond (!(q1412 == q1414))
       (
        k1423 (1 : Int))
       (
        cond q1412
        (
        (g89 m) u1415 u1413
        (fun x1421 =>
        k1423 x1421))
        (
        (g89 m) u1413 u1415
        (fun x1422 =>
        k1423 x1422)))) := by kernel_rfl

theorem g28_o {α : Type} (m : Nat) (q1404 : Bool) (u1405 : List Int) (q1406 : Bool) (u1407 : List Int) (k1425 : Int → Int → Option α) : g28 m q1404 u1405 q1406 u1407 k1425 =
    (g53 m) q1404 u1405
      (fun b1408 =>
        cond (!b1408)
        (
        k1425 (0 : Int) (1 : Int))
        (
        (g53 m) q1406 u1407
        (fun b1410 =>
        cond (!b1410)
        (
        k1425 (0 : Int) (1 : Int))
        (
        (g73 m) q1404 u1405 q1406 u1407
        (fun x1424 =>
        k1425 x1424 (0 : Int)))))) := by kernel_rfl

theorem g74l0_s {α : Type} (q : Nat) (a1442 : List Int) (k1446 : (List Int) → Option α) (m : Nat) (a1440 : List Int) (a1441 : List Int) : g74l0 (g96 q) a1442 k1446 (m + 1) a1440 a1441 =
    cond (!(eqLI a1441 [0, 0, 0, 0, 0, 0]))
     (
      (g96 q) a1440 a1441
        (fun l1444 l1445 =>
        (g74l0 (g96 q) a1442 k1446 m) a1441 l1445))
     (
      k1446 a1440) := by kernel_rfl
theorem g74l0_z {α : Type} (q : Nat) (a1442 : List Int) (k1446 : (List Int) → Option α) (a1440 : List Int) (a1441 : List Int) : g74l0 (g96 q) a1442 k1446 0 a1440 a1441 = none := by kernel_rfl
theorem g74_o {α : Type} (m : Nat) (u1438 : List Int) (u1439 : List Int) (k1449 : (List Int) → Option α) : g74 m u1438 u1439 k1449 =
    g74l0 (g96 m) [0, 0, 0, 0, 0, 0]
      (fun l1448 =>
        k1449 l1448)
      m u1438 u1439 := by kernel_rfl

theorem g29_o {α : Type} (m : Nat) (q1430 : Bool) (u1431 : List Int) (q1432 : Bool) (u1433 : List Int) (k1452 : Bool → (List Int) → Int → Option α) : g29 m q1430 u1431 q1432 u1433 k1452 =
    (g53 m) q1430 u1431
      (fun b1434 =>
        cond (!b1434)
        (
        k1452 false [0, 0, 0, 0, 0, 0] (1 : Int))
        (
        (g53 m) q1432 u1433
        (fun b1436 =>
        cond (!b1436)
        (
        k1452 false [0, 0, 0, 0, 0, 0] (1 : Int))
        (
        (g74 m) u1431 u1433
        (fun l1450 =>
        (g64 m) false l1450
        (fun b1451 =>
        k1452 b1451 l1450 (0 : Int))))))) := by kernel_rfl

theorem g3_o {α : Type} (m : Nat) (m1 : Nat) (m2 : Nat) (m3 : Nat) (m4 : Nat) (m5 : Nat) (m6 : Nat) (m7 : Nat) (u8 : List Int) (m9 : Nat) (u10 : List Int) (k2057 : Bool → Option α) : g3 m m1 m2 m3 m4 m5 m6 m7 u8 m9 u10 k2057 =
    (g10 m) m1 m2 m3 m7 u8
      (fun b18 =>
        cond b18
        (
        k2057 true)
        (
        (g10 m) m4 m5 m6 m9 u10
        (fun b19 =>
        cond b19
        (
        k2057 true)
        (
        (g11 m) m1 m2 m3 m7 u8
        (fun b167 l168 =>
        (g12 m) m4 m5 m6 m9 u10
        (fun b184 l185 =>
        cond ((b184 == false) && (eqLI l185 [0, 0, 0, 0, 0, 0]))
        (
        (g13 m) b167 l168 b184 l185
        (fun b633 l634 b635 l636 x637 =>
        (g14 m) b167 l168 b184 l185
        (fun b709 l710 x711 =>
        cond (x637 == (4 : Int))
        (
        k2057 (x711 == (4 : Int)))
        (
        k2057 false))))
        (
        (g13 m) b167 l168 b184 l185
        (fun b714 l715 b716 l717 x718 =>
        (g15 m) b167 l168 b184 l185
        (fun b932 l933 b934 l935 x936 =>
        (g14 m) b167 l168 b184 l185
        (fun b937 l938 x939 =>
        cond (x718 != x936)
        (
        k2057 false)
        (
        cond (x718 != (0 : Int))
        (
        k2057 false)
        (
        cond (!((b714 == b932) && (eqLI l715 l933)))
        (
        k2057 false)
        (
        cond (!((b716 == b934) && (eqLI l717 l935)))
        (
        k2057 false)
        (
        cond (x939 != (0 : Int))
        (
        k2057 false)
        (
        (g16 m) b932 l933 b184 l185
        (fun b1034 l1035 x1036 =>
        cond (x1036 == (0 : Int))
        (
        (g17 m) b1034 l1035 b934 l935
        (fun b1053 l1054 x1055 =>
        cond (x1055 != (0 : Int))
        (
        k2057 false)
        (
        cond (!((b1053 == b167) && (eqLI l1054 l168)))
        (
        k2057 false)
        (
        (g18 m) b937 l938 b932 l933
        (fun b1088 l1089 x1090 =>
        cond (x1090 != (0 : Int))
        (
        k2057 false)
        (
        (g19 m) (0 : Int)
        (fun b1092 l1093 =>
        cond (!((b1088 == b1092) && (eqLI l1089 l1093)))
        (
        (g19 m) (1 : Int)
        (fun b1095 l1096 =>
        cond (!((b1088 == b1095) && (eqLI l1089 l1096)))
        (
        k2057 false)
        (
        (g20 m) b934 l935 b934 l935
        (fun b1126 l1127 x1128 =>
        (g21 m) false l1127 false l185
        (fun x1155 x1156 =>
        cond (x1128 == (0 : Int))
        (
        cond (x1156 != (0 : Int))
        (
        k2057 false)
        (
        (g19 m) (1 : Int)
        (fun b1160 l1161 =>
        cond (!((decide (x1155 ≥ (0 : Int))) == ((b1088 == b1160) && (eqLI l1089 l1161))))
        (
        k2057 false)
        (
        (g22 m) m4 m5 m6 (60 : Int) m9 u10
        (fun x1174 =>
        (g12 m) m1 m2 m3 m7 u8
        (fun b1175 l1176 =>
        (g23 m) b1175 l1176 x1174
        (fun b1208 l1209 x1210 =>
        (g24 m) b1208 l1209 x1174
        (fun b1252 l1253 x1254 =>
        (g19 m) (2 : Int)
        (fun b1255 l1256 =>
        (g25 m) b1255 l1256 x1174
        (fun b1288 l1289 x1290 =>
        (g16 m) b1175 l1176 b1288 l1289
        (fun b1291 l1292 x1293 =>
        (g24 m) b1175 l1176 x1174
        (fun b1294 l1295 x1296 =>
        (g26 m) b1175 l1176 b1288 l1289
        (fun b1346 l1347 x1348 =>
        cond (x1210 != (0 : Int))
        (
        k2057 false)
        (
        cond (x1254 != (0 : Int))
        (
        k2057 false)
        (
        cond (!((b1252 == b1175) && (eqLI l1253 l1176)))
        (
        k2057 false)
        (
        cond (x1290 != (0 : Int))
        (
        k2057 false)
        (
        cond (x1293 != (0 : Int))
        (
        k2057 false)
        (
        cond (!((b1291 == b1208) && (eqLI l1292 l1209)))
        (
        k2057 false)
        (
        cond (x1296 != (0 : Int))
        (
        k2057 false)
        (
        cond (x1348 != (0 : Int))
        (
        k2057 false)
        (
        cond (!((b1294 == b1346) && (eqLI l1295 l1347)))
        (
        k2057 false)
        (
        (g27 m) false l1176
        (fun b1390 l1391 x1392 =>
        (g16 m) b1390 l1391 b1390 l1391
        (fun b1393 l1394 x1395 =>
        (g19 m) (1 : Int)
        (fun b1396 l1397 =>
        (g17 m) b1390 l1391 b1396 l1397
        (fun b1398 l1399 x1400 =>
        (g16 m) b1398 l1399 b1398 l1399
        (fun b1401 l1402 x1403 =>
        (g28 m) b1393 l1394 false l1176
        (fun x1426 x1427 =>
        (g28 m) b1401 l1402 false l1176
        (fun x1428 x1429 =>
        (g29 m) b1175 l1176 b184 l185
        (fun b1453 l1454 x1455 =>
        (g13 m) b1175 l1176 b1453 l1454
        (fun b1456 l1457 b1458 l1459 x1460 =>
        (g13 m) b184 l185 b1453 l1454
        (fun b1461 l1462 b1463 l1464 x1465 =>
        cond (x1392 == (0 : Int))
        (
        cond (x1395 == (0 : Int))
        (
        cond (x1400 == (0 : Int))
        (
        cond (x1403 == (0 : Int))
        (
        cond (x1427 == (0 : Int))
        (
        cond (decide (x1426 ≤ (0 : Int)))
        (
        cond (x1429 == (0 : Int))
        (
        cond (decide (x1428 > (0 : Int)))
        (
        cond (x1455 == (0 : Int))
        (
        cond (x1460 == (0 : Int))
        (
        cond ((b1458 == false) && (eqLI l1459 [0, 0, 0, 0, 0, 0]))
        (
        cond (x1465 == (0 : Int))
        (
        k2057 ((b1463 == false) && (eqLI l1464 [0, 0, 0, 0, 0, 0])))
        (
        k2057 false))
        (
        k2057 false))
        (
        k2057 false))
        (
        k2057 false))
        (
        k2057 false))
        (
        k2057 false))
        (
        k2057 false))
        (
        k2057 false))
        (
        k2057 false))
        (
        k2057 false))
        (
        k2057 false))
        (
        k2057 false)))))))))))))))))))))))))))))))))
        (
        (g22 m) m4 m5 m6 (60 : Int) m9 u10
        (fun x1479 =>
        (g12 m) m1 m2 m3 m7 u8
        (fun b1480 l1481 =>
        (g23 m) b1480 l1481 x1479
        (fun b1482 l1483 x1484 =>
        (g24 m) b1482 l1483 x1479
        (fun b1485 l1486 x1487 =>
        (g19 m) (2 : Int)
        (fun b1488 l1489 =>
        (g25 m) b1488 l1489 x1479
        (fun b1490 l1491 x1492 =>
        (g16 m) b1480 l1481 b1490 l1491
        (fun b1493 l1494 x1495 =>
        (g24 m) b1480 l1481 x1479
        (fun b1496 l1497 x1498 =>
        (g26 m) b1480 l1481 b1490 l1491
        (fun b1499 l1500 x1501 =>
        cond (x1484 != (0 : Int))
        (
        k2057 false)
        (
        cond (x1487 != (0 : Int))
        (
        k2057 false)
        (
        cond (!((b1485 == b1480) && (eqLI l1486 l1481)))
        (
        k2057 false)
        (
        cond (x1492 != (0 : Int))
        (
        k2057 false)
        (
        cond (x1495 != (0 : Int))
        (
        k2057 false)
        (
        cond (!((b1493 == b1482) && (eqLI l1494 l1483)))
        (
        k2057 false)
        (
        cond (x1498 != (0 : Int))
        (
        k2057 false)
        (
        cond (x1501 != (0 : Int))
        (
        k2057 false)
        (
        cond (!((b1496 == b1499) && (eqLI l1497 l1500)))
        (
        k2057 false)
        (
        (g27 m) false l1481
        (fun b1511 l1512 x1513 =>
        (g16 m) b1511 l1512 b1511 l1512
        (fun b1514 l1515 x1516 =>
        (g19 m) (1 : Int)
        (fun b1517 l1518 =>
        (g17 m) b1511 l1512 b1517 l1518
        (fun b1519 l1520 x1521 =>
        (g16 m) b1519 l1520 b1519 l1520
        (fun b1522 l1523 x1524 =>
        (g28 m) b1514 l1515 false l1481
        (fun x1525 x1526 =>
        (g28 m) b1522 l1523 false l1481
        (fun x1527 x1528 =>
        (g29 m) b1480 l1481 b184 l185
        (fun b1529 l1530 x1531 =>
        (g13 m) b1480 l1481 b1529 l1530
        (fun b1532 l1533 b1534 l1535 x1536 =>
        (g13 m) b184 l185 b1529 l1530
        (fun b1537 l1538 b1539 l1540 x1541 =>
        cond (x1513 == (0 : Int))
        (
        cond (x1516 == (0 : Int))
        (
        cond (x1521 == (0 : Int))
        (
        cond (x1524 == (0 : Int))
        (
        cond (x1526 == (0 : Int))
        (
        cond (decide (x1525 ≤ (0 : Int)))
        (
        cond (x1528 == (0 : Int))
        (
        cond (decide (x1527 > (0 : Int)))
        (
        cond (x1531 == (0 : Int))
        (
        cond (x1536 == (0 : Int))
        (
        cond ((b1534 == false) && (eqLI l1535 [0, 0, 0, 0, 0, 0]))
        (
        cond (x1541 == (0 : Int))
        (
        k2057 ((b1539 == false) && (eqLI l1540 [0, 0, 0, 0, 0, 0])))
        (
        k2057 false))
        (
        k2057 false))
        (
        k2057 false))
        (
        k2057 false))
        (
        k2057 false))
        (
        k2057 false))
        (
        k2057 false))
        (
        k2057 false))
        (
        k2057 false))
        (
        k2057 false))
        (
        k2057 false))
        (
        k2057 false)))))))))))))))))))))))))))))))))))
        (
        (g20 m) b934 l935 b934 l935
        (fun b1555 l1556 x1557 =>
        (g21 m) false l1556 false l185
        (fun x1558 x1559 =>
        cond (x1557 == (0 : Int))
        (
        cond (x1559 != (0 : Int))
        (
        k2057 false)
        (
        (g19 m) (1 : Int)
        (fun b1563 l1564 =>
        cond (!((decide (x1558 ≥ (0 : Int))) == ((b1088 == b1563) && (eqLI l1089 l1564))))
        (
        k2057 false)
        (
        (g22 m) m4 m5 m6 (60 : Int) m9 u10
        (fun x1567 =>
        (g12 m) m1 m2 m3 m7 u8
        (fun b1568 l1569 =>
        (g23 m) b1568 l1569 x1567
        (fun b1570 l1571 x1572 =>
        (g24 m) b1570 l1571 x1567
        (fun b1573 l1574 x1575 =>
        (g19 m) (2 : Int)
        (fun b1576 l1577 =>
        (g25 m) b1576 l1577 x1567
        (fun b1578 l1579 x1580 =>
        (g16 m) b1568 l1569 b1578 l1579
        (fun b1581 l1582 x1583 =>
        (g24 m) b1568 l1569 x1567
        (fun b1584 l1585 x1586 =>
        (g26 m) b1568 l1569 b1578 l1579
        (fun b1587 l1588 x1589 =>
        cond (x1572 != (0 : Int))
        (
        k2057 false)
        (
        cond (x1575 != (0 : Int))
        (
        k2057 false)
        (
        cond (!((b1573 == b1568) && (eqLI l1574 l1569)))
        (
        k2057 false)
        (
        cond (x1580 != (0 : Int))
        (
        k2057 false)
        (
        cond (x1583 != (0 : Int))
        (
        k2057 false)
        (
        cond (!((b1581 == b1570) && (eqLI l1582 l1571)))
        (
        k2057 false)
        (
        cond (x1586 != (0 : Int))
        (
        k2057 false)
        (
        cond (x1589 != (0 : Int))
        (
        k2057 false)
        (
        cond (!((b1584 == b1587) && (eqLI l1585 l1588)))
        (
        k2057 false)
        (
        (g27 m) false l1569
        (fun b1599 l1600 x1601 =>
        (g16 m) b1599 l1600 b1599 l1600
        (fun b1602 l1603 x1604 =>
        (g19 m) (1 : Int)
        (fun b1605 l1606 =>
        (g17 m) b1599 l1600 b1605 l1606
        (fun b1607 l1608 x1609 =>
        (g16 m) b1607 l1608 b1607 l1608
        (fun b1610 l1611 x1612 =>
        (g28 m) b1602 l1603 false l1569
        (fun x1613 x1614 =>
        (g28 m) b1610 l1611 false l1569
        (fun x1615 x1616 =>
        (g29 m) b1568 l1569 b184 l185
        (fun b1617 l1618 x1619 =>
        (g13 m) b1568 l1569 b1617 l1618
        (fun b1620 l1621 b1622 l1623 x1624 =>
        (g13 m) b184 l185 b1617 l1618
        (fun b1625 l1626 b1627 l1628 x1629 =>
        cond (x1601 == (0 : Int))
        (
        cond (x1604 == (0 : Int))
        (
        cond (x1609 == (0 : Int))
        (
        cond (x1612 == (0 : Int))
        (
        cond (x1614 == (0 : Int))
        (
        cond (decide (x1613 ≤ (0 : Int)))
        (
        cond (x1616 == (0 : Int))
        (
        cond (decide (x1615 > (0 : Int)))
        (
        cond (x1619 == (0 : Int))
        (
        cond (x1624 == (0 : Int))
        (
        cond ((b1622 == false) && (eqLI l1623 [0, 0, 0, 0, 0, 0]))
        (
        cond (x1629 == (0 : Int))
        (
        k2057 ((b1627 == false) && (eqLI l1628 [0, 0, 0, 0, 0, 0])))
        (
        k2057 false))
        (
        k2057 false))
        (
        k2057 false))
        (
        k2057 false))
        (
        k2057 false))
        (
        k2057 false))
        (
        k2057 false))
        (
        k2057 false))
        (
        k2057 false))
        (
        k2057 false))
        (
        k2057 false))
        (
        k2057 false)))))))))))))))))))))))))))))))))
        (
        (g22 m) m4 m5 m6 (60 : Int) m9 u10
        (fun x1643 =>
        (g12 m) m1 m2 m3 m7 u8
        (fun b1644 l1645 =>
        (g23 m) b1644 l1645 x1643
        (fun b1646 l1647 x1648 =>
        (g24 m) b1646 l1647 x1643
        (fun b1649 l1650 x1651 =>
        (g19 m) (2 : Int)
        (fun b1652 l1653 =>
        (g25 m) b1652 l1653 x1643
        (fun b1654 l1655 x1656 =>
        (g16 m) b1644 l1645 b1654 l1655
        (fun b1657 l1658 x1659 =>
        (g24 m) b1644 l1645 x1643
        (fun b1660 l1661 x1662 =>
        (g26 m) b1644 l1645 b1654 l1655
        (fun b1663 l1664 x1665 =>
        cond (x1648 != (0 : Int))
        (
        k2057 false)
        (
        cond (x1651 != (0 : Int))
        (
        k2057 false)
        (
        cond (!((b1649 == b1644) && (eqLI l1650 l1645)))
        (
        k2057 false)
        (
        cond (x1656 != (0 : Int))
        (
        k2057 false)
        (
        cond (x1659 != (0 : Int))
        (
        k2057 false)
        (
        cond (!((b1657 == b1646) && (eqLI l1658 l1647)))
        (
        k2057 false)
        (
        cond (x1662 != (0 : Int))
        (
        k2057 false)
        (
        cond (x1665 != (0 : Int))
        (
        k2057 false)
        (
        cond (!((b1660 == b1663) && (eqLI l1661 l1664)))
        (
        k2057 false)
        (
        (g27 m) false l1645
        (fun b1675 l1676 x1677 =>
        (g16 m) b1675 l1676 b1675 l1676
        (fun b1678 l1679 x1680 =>
        (g19 m) (1 : Int)
        (fun b1681 l1682 =>
        (g17 m) b1675 l1676 b1681 l1682
        (fun b1683 l1684 x1685 =>
        (g16 m) b1683 l1684 b1683 l1684
        (fun b1686 l1687 x1688 =>
        (g28 m) b1678 l1679 false l1645
        (fun x1689 x1690 =>
        (g28 m) b1686 l1687 false l1645
        (fun x1691 x1692 =>
        (g29 m) b1644 l1645 b184 l185
        (fun b1693 l1694 x1695 =>
        (g13 m) b1644 l1645 b1693 l1694
        (fun b1696 l1697 b1698 l1699 x1700 =>
        (g13 m) b184 l185 b1693 l1694
        (fun b1701 l1702 b1703 l1704 x1705 =>
        cond (x1677 == (0 : Int))
        (
        cond (x1680 == (0 : Int))
        (
        cond (x1685 == (0 : Int))
        (
        cond (x1688 == (0 : Int))
        (
        cond (x1690 == (0 : Int))
        (
        cond (decide (x1689 ≤ (0 : Int)))
        (
        cond (x1692 == (0 : Int))
        (
        cond (decide (x1691 > (0 : Int)))
        (
        cond (x1695 == (0 : Int))
        (
        cond (x1700 == (0 : Int))
        (
        cond ((b1698 == false) && (eqLI l1699 [0, 0, 0, 0, 0, 0]))
        (
        cond (x1705 == (0 : Int))
        (
        k2057 ((b1703 == false) && (eqLI l1704 [0, 0, 0, 0, 0, 0])))
        (
        k2057 false))
        (
        k2057 false))
        (
        k2057 false))
        (
        k2057 false))
        (
        k2057 false))
        (
        k2057 false))
        (
        k2057 false))
        (
        k2057 false))
        (
        k2057 false))
        (
        k2057 false))
        (
        k2057 false))
        (
        k2057 false))))))))))))))))))))))))))))))))))))))))
        (
        (g18 m) b937 l938 b932 l933
        (fun b1719 l1720 x1721 =>
        cond (x1721 != (0 : Int))
        (
        k2057 false)
        (
        (g19 m) (0 : Int)
        (fun b1723 l1724 =>
        cond (!((b1719 == b1723) && (eqLI l1720 l1724)))
        (
        (g19 m) (1 : Int)
        (fun b1726 l1727 =>
        cond (!((b1719 == b1726) && (eqLI l1720 l1727)))
        (
        k2057 false)
        (
        (g20 m) b934 l935 b934 l935
        (fun b1729 l1730 x1731 =>
        (g21 m) false l1730 false l185
        (fun x1732 x1733 =>
        cond (x1731 == (0 : Int))
        (
        cond (x1733 != (0 : Int))
        (
        k2057 false)
        (
        (g19 m) (1 : Int)
        (fun b1737 l1738 =>
        cond (!((decide (x1732 ≥ (0 : Int))) == ((b1719 == b1737) && (eqLI l1720 l1738))))
        (
        k2057 false)
        (
        (g22 m) m4 m5 m6 (60 : Int) m9 u10
        (fun x1741 =>
        (g12 m) m1 m2 m3 m7 u8
        (fun b1742 l1743 =>
        (g23 m) b1742 l1743 x1741
        (fun b1744 l1745 x1746 =>
        (g24 m) b1744 l1745 x1741
        (fun b1747 l1748 x1749 =>
        (g19 m) (2 : Int)
        (fun b1750 l1751 =>
        (g25 m) b1750 l1751 x1741
        (fun b1752 l1753 x1754 =>
        (g16 m) b1742 l1743 b1752 l1753
        (fun b1755 l1756 x1757 =>
        (g24 m) b1742 l1743 x1741
        (fun b1758 l1759 x1760 =>
        (g26 m) b1742 l1743 b1752 l1753
        (fun b1761 l1762 x1763 =>
        cond (x1746 != (0 : Int))
        (
        k2057 false)
        (
        cond (x1749 != (0 : Int))
        (
        k2057 false)
        (
        cond (!((b1747 == b1742) && (eqLI l1748 l1743)))
        (
        k2057 false)
        (
        cond (x1754 != (0 : Int))
        (
        k2057 false)
        (
        cond (x1757 != (0 : Int))
        (
        k2057 false)
        (
        cond (!((b1755 == b1744) && (eqLI l1756 l1745)))
        (
        k2057 false)
        (
        cond (x1760 != (0 : Int))
        (
        k2057 false)
        (
        cond (x1763 != (0 : Int))
        (
        k2057 false)
        (
        cond (!((b1758 == b1761) && (eqLI l1759 l1762)))
        (
        k2057 false)
        (
        (g27 m) false l1743
        (fun b1773 l1774 x1775 =>
        (g16 m) b1773 l1774 b1773 l1774
        (fun b1776 l1777 x1778 =>
        (g19 m) (1 : Int)
        (fun b1779 l1780 =>
        (g17 m) b1773 l1774 b1779 l1780
        (fun b1781 l1782 x1783 =>
        (g16 m) b1781 l1782 b1781 l1782
        (fun b1784 l1785 x1786 =>
        (g28 m) b1776 l1777 false l1743
        (fun x1787 x1788 =>
        (g28 m) b1784 l1785 false l1743
        (fun x1789 x1790 =>
        (g29 m) b1742 l1743 b184 l185
        (fun b1791 l1792 x1793 =>
        (g13 m) b1742 l1743 b1791 l1792
        (fun b1794 l1795 b1796 l1797 x1798 =>
        (g13 m) b184 l185 b1791 l1792
        (fun b1799 l1800 b1801 l1802 x1803 =>
        cond (x1775 == (0 : Int))
        (
        cond (x1778 == (0 : Int))
        (
        cond (x1783 == (0 : Int))
        (
        cond (x1786 == (0 : Int))
        (
        cond (x1788 == (0 : Int))
        (
        cond (decide (x1787 ≤ (0 : Int)))
        (
        cond (x1790 == (0 : Int))
        (
        cond (decide (x1789 > (0 : Int)))
        (
        cond (x1793 == (0 : Int))
        (
        cond (x1798 == (0 : Int))
        (
        cond ((b1796 == false) && (eqLI l1797 [0, 0, 0, 0, 0, 0]))
        (
        cond (x1803 == (0 : Int))
        (
        k2057 ((b1801 == false) && (eqLI l1802 [0, 0, 0, 0, 0, 0])))
        (
        k2057 false))
        (
        k2057 false))
        (
        k2057 false))
        (
        k2057 false))
        (
        k2057 false))
        (
        k2057 false))
        (
        k2057 false))
        (
        k2057 false))
        (
        k2057 false))
        (
        k2057 false))
        (
        k2057 false))
        (
        k2057 false)))))))))))))))))))))))))))))))))
        (
        (g22 m) m4 m5 m6 (60 : Int) m9 u10
        (fun x1817 =>
        (g12 m) m1 m2 m3 m7 u8
        (fun b1818 l1819 =>
        (g23 m) b1818 l1819 x1817
        (fun b1820 l1821 x1822 =>
        (g24 m) b1820 l1821 x1817
        (fun b1823 l1824 x1825 =>
        (g19 m) (2 : Int)
        (fun b1826 l1827 =>
        (g25 m) b1826 l1827 x1817
        (fun b1828 l1829 x1830 =>
        (g16 m) b1818 l1819 b1828 l1829
        (fun b1831 l1832 x1833 =>
        (g24 m) b1818 l1819 x1817
        (fun b1834 l1835 x1836 =>
        (g26 m) b1818 l1819 b1828 l1829
        (fun b1837 l1838 x1839 =>
        cond (x1822 != (0 : Int))
        (
        k2057 false)
        (
        cond (x1825 != (0 : Int))
        (
        k2057 false)
        (
        cond (!((b1823 == b1818) && (eqLI l1824 l1819)))
        (
        k2057 false)
        (
        cond (x1830 != (0 : Int))
        (
        k2057 false)
        (
        cond (x1833 != (0 : Int))
        (
        k2057 false)
        (
        cond (!((b1831 == b1820) && (eqLI l1832 l1821)))
        (
        k2057 false)
        (
        cond (x1836 != (0 : Int))
        (
        k2057 false)
        (
        cond (x1839 != (0 : Int))
        (
        k2057 false)
        (
        cond (!((b1834 == b1837) && (eqLI l1835 l1838)))
        (
        k2057 false)
        (
        (g27 m) false l1819
        (fun b1849 l1850 x1851 =>
        (g16 m) b1849 l1850 b1849 l1850
        (fun b1852 l1853 x1854 =>
        (g19 m) (1 : Int)
        (fun b1855 l1856 =>
        (g17 m) b1849 l1850 b1855 l1856
        (fun b1857 l1858 x1859 =>
        (g16 m) b1857 l1858 b1857 l1858
        (fun b1860 l1861 x1862 =>
        (g28 m) b1852 l1853 false l1819
        (fun x1863 x1864 =>
        (g28 m) b1860 l1861 false l1819
        (fun x1865 x1866 =>
        (g29 m) b1818 l1819 b184 l185
        (fun b1867 l1868 x1869 =>
        (g13 m) b1818 l1819 b1867 l1868
        (fun b1870 l1871 b1872 l1873 x1874 =>
        (g13 m) b184 l185 b1867 l1868
        (fun b1875 l1876 b1877 l1878 x1879 =>
        cond (x1851 == (0 : Int))
        (
        cond (x1854 == (0 : Int))
        (
        cond (x1859 == (0 : Int))
        (
        cond (x1862 == (0 : Int))
        (
        cond (x1864 == (0 : Int))
        (
        cond (decide (x1863 ≤ (0 : Int)))
        (
        cond (x1866 == (0 : Int))
        (
        cond (decide (x1865 > (0 : Int)))
        (
        cond (x1869 == (0 : Int))
        (
        cond (x1874 == (0 : Int))
        (
        cond ((b1872 == false) && (eqLI l1873 [0, 0, 0, 0, 0, 0]))
        (
        cond (x1879 == (0 : Int))
        (
        k2057 ((b1877 == false) && (eqLI l1878 [0, 0, 0, 0, 0, 0])))
        (
        k2057 false))
        (
        k2057 false))
        (
        k2057 false))
        (
        k2057 false))
        (
        k2057 false))
        (
        k2057 false))
        (
        k2057 false))
        (
        k2057 false))
        (
        k2057 false))
        (
        k2057 false))
        (
        k2057 false))
        (
        k2057 false)))))))))))))))))))))))))))))))))))
        (
        (g20 m) b934 l935 b934 l935
        (fun b1893 l1894 x1895 =>
        (g21 m) false l1894 false l185
        (fun x1896 x1897 =>
        cond (x1895 == (0 : Int))
        (
        cond (x1897 != (0 : Int))
        (
        k2057 false)
        (
        (g19 m) (1 : Int)
        (fun b1901 l1902 =>
        cond (!((decide (x1896 ≥ (0 : Int))) == ((b1719 == b1901) && (eqLI l1720 l1902))))
        (
        k2057 false)
        (
        (g22 m) m4 m5 m6 (60 : Int) m9 u10
        (fun x1905 =>
        (g12 m) m1 m2 m3 m7 u8
        (fun b1906 l1907 =>
        (g23 m) b1906 l1907 x1905
        (fun b1908 l1909 x1910 =>
        (g24 m) b1908 l1909 x1905
        (fun b1911 l1912 x1913 =>
        (g19 m) (2 : Int)
        (fun b1914 l1915 =>
        (g25 m) b1914 l1915 x1905
        (fun b1916 l1917 x1918 =>
        (g16 m) b1906 l1907 b1916 l1917
        (fun b1919 l1920 x1921 =>
        (g24 m) b1906 l1907 x1905
        (fun b1922 l1923 x1924 =>
        (g26 m) b1906 l1907 b1916 l1917
        (fun b1925 l1926 x1927 =>
        cond (x1910 != (0 : Int))
        (
        k2057 false)
        (
        cond (x1913 != (0 : Int))
        (
        k2057 false)
        (
        cond (!((b1911 == b1906) && (eqLI l1912 l1907)))
        (
        k2057 false)
        (
        cond (x1918 != (0 : Int))
        (
        k2057 false)
        (
        cond (x1921 != (0 : Int))
        (
        k2057 false)
        (
        cond (!((b1919 == b1908) && (eqLI l1920 l1909)))
        (
        k2057 false)
        (
        cond (x1924 != (0 : Int))
        (
        k2057 false)
        (
        cond (x1927 != (0 : Int))
        (
        k2057 false)
        (
        cond (!((b1922 == b1925) && (eqLI l1923 l1926)))
        (
        k2057 false)
        (
        (g27 m) false l1907
        (fun b1937 l1938 x1939 =>
        (g16 m) b1937 l1938 b1937 l1938
        (fun b1940 l1941 x1942 =>
        (g19 m) (1 : Int)
        (fun b1943 l1944 =>
        (g17 m) b1937 l1938 b1943 l1944
        (fun b1945 l1946 x1947 =>
        (g16 m) b1945 l1946 b1945 l1946
        (fun b1948 l1949 x1950 =>
        (g28 m) b1940 l1941 false l1907
        (fun x1951 x1952 =>
        (g28 m) b1948 l1949 false l1907
        (fun x1953 x1954 =>
        (g29 m) b1906 l1907 b184 l185
        (fun b1955 l1956 x1957 =>
        (g13 m) b1906 l1907 b1955 l1956
        (fun b1958 l1959 b1960 l1961 x1962 =>
        (g13 m) b184 l185 b1955 l1956
        (fun b1963 l1964 b1965 l1966 x1967 =>
        cond (x1939 == (0 : Int))
        (
        cond (x1942 == (0 : Int))
        (
        cond (x1947 == (0 : Int))
        (
        cond (x1950 == (0 : Int))
        (
        cond (x1952 == (0 : Int))
        (
        cond (decide (x1951 ≤ (0 : Int)))
        (
        cond (x1954 == (0 : Int))
        (
        cond (decide (x1953 > (0 : Int)))
        (
        cond (x1957 == (0 : Int))
        (
        cond (x1962 == (0 : Int))
        (
        cond ((b1960 == false) && (eqLI l1961 [0, 0, 0, 0, 0, 0]))
        (
        cond (x1967 == (0 : Int))
        (
        k2057 ((b1965 == false) && (eqLI l1966 [0, 0, 0, 0, 0, 0])))
        (
        k2057 false))
        (
        k2057 false))
        (
        k2057 false))
        (
        k2057 false))
        (
        k2057 false))
        (
        k2057 false))
        (
        k2057 false))
        (
        k2057 false))
        (
        k2057 false))
        (
        k2057 false))
        (
        k2057 false))
        (
        k2057 false)))))))))))))))))))))))))))))))))
        (
        (g22 m) m4 m5 m6 (60 : Int) m9 u10
        (fun x1981 =>
        (g12 m) m1 m2 m3 m7 u8
        (fun b1982 l1983 =>
        (g23 m) b1982 l1983 x1981
        (fun b1984 l1985 x1986 =>
        (g24 m) b1984 l1985 x1981
        (fun b1987 l1988 x1989 =>
        (g19 m) (2 : Int)
        (fun b1990 l1991 =>
        (g25 m) b1990 l1991 x1981
        (fun b1992 l1993 x1994 =>
        (g16 m) b1982 l1983 b1992 l1993
        (fun b1995 l1996 x1997 =>
        (g24 m) b1982 l1983 x1981
        (fun b1998 l1999 x2000 =>
        (g26 m) b1982 l1983 b1992 l1993
        (fun b2001 l2002 x2003 =>
        cond (x1986 != (0 : Int))
        (
        k2057 false)
        (
        cond (x1989 != (0 : Int))
        (
        k2057 false)
        (
        cond (!((b1987 == b1982) && (eqLI l1988 l1983)))
        (
        k2057 false)
        (
        cond (x1994 != (0 : Int))
        (
        k2057 false)
        (
        cond (x1997 != (0 : Int))
        (
        k2057 false)
        (
        cond (!((b1995 == b1984) && (eqLI l1996 l1985)))
        (
        k2057 false)
        (
        cond (x2000 != (0 : Int))
        (
        k2057 false)
        (
        cond (x2003 != (0 : Int))
        (
        k2057 false)
        (
        cond (!((b1998 == b2001) && (eqLI l1999 l2002)))
        (
        k2057 false)
        (
        (g27 m) false l1983
        (fun b2013 l2014 x2015 =>
        (g16 m) b2013 l2014 b2013 l2014
        (fun b2016 l2017 x2018 =>
        (g19 m) (1 : Int)
        (fun b2019 l2020 =>
        (g17 m) b2013 l2014 b2019 l2020
        (fun b2021 l2022 x2023 =>
        (g16 m) b2021 l2022 b2021 l2022
        (fun b2024 l2025 x2026 =>
        (g28 m) b2016 l2017 false l1983
        (fun x2027 x2028 =>
        (g28 m) b2024 l2025 false l1983
        (fun x2029 x2030 =>
        (g29 m) b1982 l1983 b184 l185
        (fun b2031 l2032 x2033 =>
        (g13 m) b1982 l1983 b2031 l2032
        (fun b2034 l2035 b2036 l2037 x2038 =>
        (g13 m) b184 l185 b2031 l2032
        (fun b2039 l2040 b2041 l2042 x2043 =>
        cond (x2015 == (0 : Int))
        (
        cond (x2018 == (0 : Int))
        (
        cond (x2023 == (0 : Int))
        (
        cond (x2026 == (0 : Int))
        (
        cond (x2028 == (0 : Int))
        (
        cond (decide (x2027 ≤ (0 : Int)))
        (
        cond (x2030 == (0 : Int))
        (
        cond (decide (x2029 > (0 : Int)))
        (
        cond (x2033 == (0 : Int))
        (
        cond (x2038 == (0 : Int))
        (
        cond ((b2036 == false) && (eqLI l2037 [0, 0, 0, 0, 0, 0]))
        (
        cond (x2043 == (0 : Int))
        (
        k2057 ((b2041 == false) && (eqLI l2042 [0, 0, 0, 0, 0, 0])))
        (
        k2057 false))
        (
        k2057 false))
        (
        k2057 false))
        (
        k2057 false))
        (
        k2057 false))
        (
        k2057 false))
        (
        k2057 false))
        (
        k2057 false))
        (
        k2057 false))
        (
        k2057 false))
        (
        k2057 false))
        (
        k2057 false))))))))))))))))))))))))))))))))))))))))))))))))))))) := by kernel_rfl
end Go.Proofs.Ytlmmgjngihlpeaa.Sx
