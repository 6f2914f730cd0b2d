/- Equations that open the functions. Printed by our own sx.py. -/
import Derived.Test.YtobejeiffgehfaaSxV
namespace Go.Proofs.Ytobejeiffgehfaa.Sx
open Go
set_option linter.unusedVariables false
set_option maxRecDepth 100000
set_option linter.unusedVariables false
theorem g48l0_s {α : Type} (a13 : List Int) (a14 : List Int) (k20 : (List Int) → Option α) (m : Nat) (v12 : Int) (a15 : List Int) : g48l0 a13 a14 k20 (m + 1) v12 a15 =
    cond (decide (v12 < (6 : Int)))
     (
      if 0 ≤ v12 ∧ v12 < (6 : Nat) then
        if v12.toNat < 6 then
          if 0 ≤ v12 ∧ v12 < (6 : Nat) then
            if v12.toNat < 6 then
              (g48l0 a13 a14 k20 m) (IntKind.wrap .i64 (v12 + (1 : Int))) (List.set a15 (v12.toNat) (List.getD a13 v12.toNat 0))
            else
              none
          else
            none
        else
          none
      else
        none)
     (
      k20 a15) := by kernel_rfl
theorem g48l0_z {α : Type} (a13 : List Int) (a14 : List Int) (k20 : (List Int) → Option α) (v12 : Int) (a15 : List Int) : g48l0 a13 a14 k20 0 v12 a15 = none := by kernel_rfl
theorem g48_o {α : Type} (m : Nat) (u11 : List Int) (k23 : (List Int) → Option α) : g48 m u11 k23 =
    g48l0 u11 [0, 0, 0, 0, 0, 0]
      (fun l22 =>
        k23 l22)
      m (0 : Int) [0, 0, 0, 0, 0, 0] := by kernel_rfl

theorem g19_o {α : Type} (m : Nat) (q9 : Bool) (u10 : List Int) (k25 : (List Int) → Option α) : g19 m q9 u10 k25 =
    (g48 m) u10
      (fun l24 =>
        k25 l24) := by kernel_rfl

theorem g20l0_s {α : Type} (m33 : Nat) (m34 : Nat) (m35 : Nat) (m36 : Nat) (m37 : Nat) (m38 : Nat) (m40 : Nat) (a41 : List Int) (m42 : Nat) (k48 : (List Int) → Option α) (m : Nat) (v39 : Int) (a43 : List Int) : g20l0 m33 m34 m35 m36 m37 m38 m40 a41 m42 k48 (m + 1) v39 a43 =
    cond (decide (v39 < ((m34 : Nat) : Int)))
     (
      if 0 ≤ v39 ∧ v39 < (m34 : Nat) then
        if (m33 + v39.toNat) < m40 then
          if 0 ≤ v39 ∧ v39 < (m37 : Nat) then
            if (m36 + v39.toNat) < m42 then
              (g20l0 m33 m34 m35 m36 m37 m38 m40 a41 m42 k48 m) (IntKind.wrap .i64 (v39 + (1 : Int))) (List.set a43 (m36 + v39.toNat) (List.getD a41 (m33 + v39.toNat) 0))
            else
              none
          else
            none
        else
          none
      else
        none)
     (
      k48 a43) := by kernel_rfl
theorem g20l0_z {α : Type} (m33 : Nat) (m34 : Nat) (m35 : Nat) (m36 : Nat) (m37 : Nat) (m38 : Nat) (m40 : Nat) (a41 : List Int) (m42 : Nat) (k48 : (List Int) → Option α) (v39 : Int) (a43 : List Int) : g20l0 m33 m34 m35 m36 m37 m38 m40 a41 m42 k48 0 v39 a43 = none := by kernel_rfl
theorem g20_o {α : Type} (m : Nat) (m27 : Nat) (m28 : Nat) (m29 : Nat) (m30 : Nat) (u31 : List Int) (k51 : (List Int) → Option α) : g20 m m27 m28 m29 m30 u31 k51 =
    if ((m28 : Nat) : Int) = ((m28 : Nat) : Int) ∧ 0 ≤ ((m28 : Nat) : Int) ∧ ((m28 : Nat) : Int) ≤ 1048576 then
      g20l0 m27 m28 m29 0 m28 m28 m30 u31 m28
        (fun l50 =>
          k51 l50)
        m (0 : Int) (List.replicate m28 (0 : Int))
    else
      none := by kernel_rfl

theorem g46_o {α : Type} (m : Nat) (q60 : Bool) (u61 : List Int) (k64 : Bool → Option α) : g46 m q60 u61 k64 =
    cond (!q60)
     (
      k64 true)
     (
      k64 (!(eqLI u61 [0, 0, 0, 0, 0, 0]))) := by kernel_rfl

theorem g89l0_s {α : Type} (a114 : List Int) (a115 : List Int) (a116 : List Int) (k129 : Int → (List Int) → Option α) (m : Nat) (v112 : Int) (v113 : Int) (a117 : List Int) : g89l0 a114 a115 a116 k129 (m + 1) v112 v113 a117 =
    cond (decide (v113 < (6 : Int)))
     (
      if 0 ≤ v113 ∧ v113 < (6 : Nat) then
        if v113.toNat < 6 then
          if 0 ≤ v113 ∧ v113 < (6 : Nat) then
            if v113.toNat < 6 then
              let x124 : Int := IntKind.wrap .u64 ((IntKind.wrap .u64 ((IntKind.wrap .u64 (List.getD a114 v113.toNat 0)) + (IntKind.wrap .u64 (List.getD a115 v113.toNat 0)))) + v112)
              if 0 ≤ v113 ∧ v113 < (6 : Nat) then
                if v113.toNat < 6 then
                  (g89l0 a114 a115 a116 k129 m) (Int.fdiv x124 (2 ^ 32)) (IntKind.wrap .i64 (v113 + (1 : Int))) (List.set a117 (v113.toNat) (IntKind.wrap .u32 x124))
                else
                  none
              else
                none
            else
              none
          else
            none
        else
          none
      else
        none)
     (
      k129 v112 a117) := by kernel_rfl
theorem g89l0_z {α : Type} (a114 : List Int) (a115 : List Int) (a116 : List Int) (k129 : Int → (List Int) → Option α) (v112 : Int) (v113 : Int) (a117 : List Int) : g89l0 a114 a115 a116 k129 0 v112 v113 a117 = none := by kernel_rfl
theorem g89_o {α : Type} (m : Nat) (u110 : List Int) (u111 : List Int) (k134 : (List Int) → Bool → Option α) : g89 m u110 u111 k134 =
    g89l0 u110 u111 [0, 0, 0, 0, 0, 0]
      (fun x131 l132 =>
        k134 l132 (x131 == (0 : Int)))
      m (0 : Int) (0 : Int) [0, 0, 0, 0, 0, 0] := by kernel_rfl

theorem g102_o {α : Type} (m : Nat) (u140 : List Int) (k142 : Bool → Option α) : g102 m u140 k142 =
    k142 (eqLI u140 [0, 0, 0, 0, 0, 0]) := by kernel_rfl

theorem g88_o {α : Type} (m : Nat) (q138 : Bool) (u139 : List Int) (k145 : Bool → Option α) : g88 m q138 u139 k145 =
    cond q138
     (
      (g102 m) u139
        (fun b143 =>
          k145 (!b143)))
     (
      k145 false) := by kernel_rfl

theorem g90l0_s {α : Type} (a150 : List Int) (a151 : List Int) (k160 : Int → Option α) (k161 : Option α) (m : Nat) (v149 : Int) : g90l0 a150 a151 k160 k161 (m + 1) v149 =
    cond (decide (v149 ≥ (0 : Int)))
     (
      if 0 ≤ v149 ∧ v149 < (6 : Nat) then
        if v149.toNat < 6 then
          if 0 ≤ v149 ∧ v149 < (6 : Nat) then
            if v149.toNat < 6 then
              cond (decide ((List.getD a150 v149.toNat 0) < (List.getD a151 v149.toNat 0)))
               (
                k160 (-1 : Int))
               (
                if 0 ≤ v149 ∧ v149 < (6 : Nat) then
                  if v149.toNat < 6 then
                    if 0 ≤ v149 ∧ v149 < (6 : Nat) then
                      if v149.toNat < 6 then
                        cond (decide ((List.getD a150 v149.toNat 0) > (List.getD a151 v149.toNat 0)))
                         (
                          k160 (1 : Int))
                         (
                          (g90l0 a150 a151 k160 k161 m) (IntKind.wrap .i64 (v149 - (1 : Int))))
                      else
                        none
                    else
                      none
                  else
                    none
                else
                  none)
            else
              none
          else
            none
        else
          none
      else
        none)
     (
      k161) := by kernel_rfl
theorem g90l0_z {α : Type} (a150 : List Int) (a151 : List Int) (k160 : Int → Option α) (k161 : Option α) (v149 : Int) : g90l0 a150 a151 k160 k161 0 v149 = none := by kernel_rfl
theorem g90_o {α : Type} (m : Nat) (u147 : List Int) (u148 : List Int) (k164 : Int → Option α) : g90 m u147 u148 k164 =
    g90l0 u147 u148
      (fun x163 =>
        k164 x163)
      (
        k164 (0 : Int))
      m (5 : Int) := by kernel_rfl

theorem g91l0_s {α : Type} (a171 : List Int) (a172 : List Int) (a173 : List Int) (k190 : (List Int) → Option α) (m : Nat) (v169 : Int) (v170 : Int) (a174 : List Int) : g91l0 a171 a172 a173 k190 (m + 1) v169 v170 a174 =
    cond (decide (v170 < (6 : Int)))
     (
      if 0 ≤ v170 ∧ v170 < (6 : Nat) then
        if v170.toNat < 6 then
          if 0 ≤ v170 ∧ v170 < (6 : Nat) then
            if v170.toNat < 6 then
              let x181 : Int := IntKind.wrap .i64 ((IntKind.wrap .i64 ((IntKind.wrap .i64 (List.getD a171 v170.toNat 0)) - (IntKind.wrap .i64 (List.getD a172 v170.toNat 0)))) - v169)
              cond (decide (x181 < (0 : Int)))
               (
                if 0 ≤ v170 ∧ v170 < (6 : Nat) then
                  if v170.toNat < 6 then
                    (g91l0 a171 a172 a173 k190 m) (1 : Int) (IntKind.wrap .i64 (v170 + (1 : Int))) (List.set a174 (v170.toNat) (IntKind.wrap .u32 (IntKind.wrap .i64 (x181 + (4294967296 : Int)))))
                  else
                    none
                else
                  none)
               (
                if 0 ≤ v170 ∧ v170 < (6 : Nat) then
                  if v170.toNat < 6 then
                    (g91l0 a171 a172 a173 k190 m) (0 : Int) (IntKind.wrap .i64 (v170 + (1 : Int))) (List.set a174 (v170.toNat) (IntKind.wrap .u32 x181))
                  else
                    none
                else
                  none)
            else
              none
          else
            none
        else
          none
      else
        none)
     (
      k190 a174) := by kernel_rfl
theorem g91l0_z {α : Type} (a171 : List Int) (a172 : List Int) (a173 : List Int) (k190 : (List Int) → Option α) (v169 : Int) (v170 : Int) (a174 : List Int) : g91l0 a171 a172 a173 k190 0 v169 v170 a174 = none := by kernel_rfl
theorem g91_o {α : Type} (m : Nat) (u167 : List Int) (u168 : List Int) (k193 : (List Int) → Option α) : g91 m u167 u168 k193 =
    g91l0 u167 u168 [0, 0, 0, 0, 0, 0]
      (fun l192 =>
        k193 l192)
      m (0 : Int) (0 : Int) [0, 0, 0, 0, 0, 0] := by kernel_rfl

theorem g60_o {α : Type} (m : Nat) (q105 : Bool) (u106 : List Int) (q107 : Bool) (u108 : List Int) (k198 : Bool → (List Int) → Int → Option α) : g60 m q105 u106 q107 u108 k198 =
    cond (q105 == q107)
     (
      (g89 m) u106 u108
        (fun l135 b136 =>
          cond (!b136)
           (
            k198 false [0, 0, 0, 0, 0, 0] (3 : Int))
           (
            (g88 m) q105 l135
              (fun b146 =>
                k198 b146 l135 (0 : Int)))))
     (
      (g90 m) u106 u108
        (fun x165 =>
          cond (decide (x165 ≥ (0 : Int)))
           (
            (g91 m) u106 u108
              (fun l194 =>
                (g88 m) q105 l194
                  (fun b195 =>
                    k198 b195 l194 (0 : Int))))
           (
            (g91 m) u108 u106
              (fun l196 =>
                (g88 m) q107 l196
                  (fun b197 =>
                    k198 b197 l196 (0 : Int)))))) := by kernel_rfl

theorem g62_o {α : Type} (m : Nat) (p203 : Int) (k221 : Bool → (List Int) → Option α) : g62 m p203 k221 =
    let x204 : Int := IntKind.wrap .u64 p203
    cond (decide (p203 < (0 : Int)))
     (
      let x206 : Int := IntKind.wrap .u64 (0 - x204)
      let l211 : List Int := List.set (List.set [0, 0, 0, 0, 0, 0] 0 (IntKind.wrap .u32 x206)) 1 (IntKind.wrap .u32 (Int.fdiv x206 (2 ^ 32)))
      (g88 m) (decide (p203 < (0 : Int))) l211
        (fun b213 =>
          k221 b213 l211))
     (
      let l218 : List Int := List.set (List.set [0, 0, 0, 0, 0, 0] 0 (IntKind.wrap .u32 x204)) 1 (IntKind.wrap .u32 (Int.fdiv x204 (2 ^ 32)))
      (g88 m) (decide (p203 < (0 : Int))) l218
        (fun b220 =>
          k221 b220 l218)) := by kernel_rfl

theorem g47_o {α : Type} (m : Nat) (q102 : Bool) (u103 : List Int) (p104 : Int) (k227 : Bool → (List Int) → Int → Option α) : g47 m q102 u103 p104 k227 =
    (g60 m) q102 u103 q102 u103
      (fun b199 l200 x201 =>
        cond (x201 != (0 : Int))
         (
          k227 false [0, 0, 0, 0, 0, 0] x201)
         (
          (g62 m) p104
            (fun b222 l223 =>
              (g60 m) b199 l200 b222 l223
                (fun b224 l225 x226 =>
                  k227 b224 l225 x226)))) := by kernel_rfl

theorem g18l0_s {α : Type} (m66 : Nat) (m67 : Nat) (m68 : Nat) (m71 : Nat) (a72 : List Int) (c73 : Bool) (a74 : List Int) (c75 : Bool) (a76 : List Int) (k84 : Bool → Option α) (m : Nat) (c69 : Bool) (v70 : Int) : g18l0 m66 m67 m68 m71 a72 c73 a74 c75 a76 k84 (m + 1) c69 v70 =
    cond (decide (v70 < ((m67 : Nat) : Int)))
     (
      cond c69
       (
        if 0 ≤ v70 ∧ v70 < (m67 : Nat) then
          if (m66 + v70.toNat) < m71 then
            cond (decide ((List.getD a72 (m66 + v70.toNat) 0) ≥ (-1 : Int)))
             (
              if 0 ≤ v70 ∧ v70 < (m67 : Nat) then
                if (m66 + v70.toNat) < m71 then
                  (g18l0 m66 m67 m68 m71 a72 c73 a74 c75 a76 k84 m) (decide ((List.getD a72 (m66 + v70.toNat) 0) ≤ (1 : Int))) (IntKind.wrap .i64 (v70 + (1 : Int)))
                else
                  none
              else
                none)
             (
              (g18l0 m66 m67 m68 m71 a72 c73 a74 c75 a76 k84 m) false (IntKind.wrap .i64 (v70 + (1 : Int))))
          else
            none
        else
          none)
       (
        k84 c69))
     (
      k84 c69) := by kernel_rfl
theorem g18l0_z {α : Type} (m66 : Nat) (m67 : Nat) (m68 : Nat) (m71 : Nat) (a72 : List Int) (c73 : Bool) (a74 : List Int) (c75 : Bool) (a76 : List Int) (k84 : Bool → Option α) (c69 : Bool) (v70 : Int) : g18l0 m66 m67 m68 m71 a72 c73 a74 c75 a76 k84 0 c69 v70 = none := by kernel_rfl
theorem g18l2_s {α : Type} (q : Nat) (m89 : Nat) (m90 : Nat) (m91 : Nat) (m93 : Nat) (a94 : List Int) (c95 : Bool) (a96 : List Int) (k233 : Int → (List Int) → Option α) (k234 : Bool → (List Int) → Option α) (m : Nat) (v92 : Int) (c97 : Bool) (a98 : List Int) : g18l2 (g47 q) m89 m90 m91 m93 a94 c95 a96 k233 k234 (m + 1) v92 c97 a98 =
    cond (decide (v92 < ((m90 : Nat) : Int)))
     (
      if 0 ≤ v92 ∧ v92 < (m90 : Nat) then
        if (m89 + v92.toNat) < m93 then
          (g47 q) c97 a98 (IntKind.wrap .i64 (List.getD a94 (m89 + v92.toNat) 0))
            (fun b228 l229 x230 =>
              cond (x230 != (0 : Int))
               (
                k233 x230 [0, 0, 0, 0, 0, 0])
               (
                (g18l2 (g47 q) m89 m90 m91 m93 a94 c95 a96 k233 k234 m) (IntKind.wrap .i64 (v92 + (1 : Int))) b228 l229))
        else
          none
      else
        none)
     (
      k234 c97 a98) := by kernel_rfl
theorem g18l2_z {α : Type} (q : Nat) (m89 : Nat) (m90 : Nat) (m91 : Nat) (m93 : Nat) (a94 : List Int) (c95 : Bool) (a96 : List Int) (k233 : Int → (List Int) → Option α) (k234 : Bool → (List Int) → Option α) (v92 : Int) (c97 : Bool) (a98 : List Int) : g18l2 (g47 q) m89 m90 m91 m93 a94 c95 a96 k233 k234 0 v92 c97 a98 = none := by kernel_rfl
theorem g18_o {α : Type} (m : Nat) (q53 : Bool) (u54 : List Int) (m55 : Nat) (m56 : Nat) (m57 : Nat) (m58 : Nat) (u59 : List Int) (k240 : Bool → (List Int) → Int → Option α) : g18 m q53 u54 m55 m56 m57 m58 u59 k240 =
    (g46 m) q53 u54
      (fun b65 =>
        g18l0 m55 m56 m57 m58 u59 q53 u54 false [0, 0, 0, 0, 0, 0]
          (fun b86 =>
            cond (!b86)
             (
              k240 false [0, 0, 0, 0, 0, 0] (1 : Int))
             (
              cond (decide (((m56 : Nat) : Int) > (64 : Int)))
               (
                k240 false [0, 0, 0, 0, 0, 0] (2 : Int))
               (
                g18l2 (g47 m) m55 m56 m57 m58 u59 false [0, 0, 0, 0, 0, 0]
                  (fun x236 l237 =>
                    k240 false l237 x236)
                  (fun b238 l239 =>
                    k240 b238 l239 (0 : Int))
                  m (0 : Int) q53 u54)))
          m b65 (0 : Int)) := by kernel_rfl

theorem g49_o {α : Type} (m : Nat) (q253 : Bool) (u254 : List Int) (k257 : Bool → Option α) : g49 m q253 u254 k257 =
    cond (!q253)
     (
      k257 true)
     (
      k257 (!(eqLI u254 [0, 0, 0, 0, 0, 0]))) := by kernel_rfl

theorem g52_o {α : Type} (m : Nat) (p280 : Int) (k283 : Bool → Option α) : g52 m p280 k283 =
    cond (decide (p280 ≥ (-1 : Int)))
     (
      k283 (decide (p280 ≤ (1 : Int))))
     (
      k283 false) := by kernel_rfl

theorem g51_o {α : Type} (m : Nat) (p279 : Int) (k286 : Bool → Option α) : g51 m p279 k286 =
    (g52 m) p279
      (fun b284 =>
        k286 (!b284)) := by kernel_rfl

theorem g83l0_s {α : Type} (q : Nat) (m270 : Nat) (m271 : Nat) (m272 : Nat) (v273 : Int) (m275 : Nat) (a276 : List Int) (k289 : Int → Option α) (k290 : Option α) (m : Nat) (v274 : Int) : g83l0 (g51 q) m270 m271 m272 v273 m275 a276 k289 k290 (m + 1) v274 =
    cond (decide (v274 < v273))
     (
      if 0 ≤ v274 ∧ v274 < (m271 : Nat) then
        if (m270 + v274.toNat) < m275 then
          (g51 q) (List.getD a276 (m270 + v274.toNat) 0)
            (fun b287 =>
              cond b287
               (
                k289 v274)
               (
                (g83l0 (g51 q) m270 m271 m272 v273 m275 a276 k289 k290 m) (IntKind.wrap .i64 (v274 + (1 : Int)))))
        else
          none
      else
        none)
     (
      k290) := by kernel_rfl
theorem g83l0_z {α : Type} (q : Nat) (m270 : Nat) (m271 : Nat) (m272 : Nat) (v273 : Int) (m275 : Nat) (a276 : List Int) (k289 : Int → Option α) (k290 : Option α) (v274 : Int) : g83l0 (g51 q) m270 m271 m272 v273 m275 a276 k289 k290 0 v274 = none := by kernel_rfl
theorem g83_o {α : Type} (m : Nat) (m265 : Nat) (m266 : Nat) (m267 : Nat) (m268 : Nat) (u269 : List Int) (k293 : Int → Option α) : g83 m m265 m266 m267 m268 u269 k293 =
    g83l0 (g51 m) m265 m266 m267 ((m266 : Nat) : Int) m268 u269
      (fun x292 =>
        k293 x292)
      (
        k293 (-1 : Int))
      m (0 : Int) := by kernel_rfl

theorem g50_o {α : Type} (m : Nat) (m260 : Nat) (m261 : Nat) (m262 : Nat) (m263 : Nat) (u264 : List Int) (k296 : Bool → Option α) : g50 m m260 m261 m262 m263 u264 k296 =
    (g83 m) m260 m261 m262 m263 u264
      (fun x294 =>
        k296 (decide (x294 ≥ (0 : Int)))) := by kernel_rfl

theorem g84_o {α : Type} (m : Nat) (q321 : Bool) (u322 : List Int) (k324 : Bool → Option α) : g84 m q321 u322 k324 =
    cond q321
     (
      k324 (!(eqLI u322 [0, 0, 0, 0, 0, 0])))
     (
      k324 false) := by kernel_rfl

theorem g55_o {α : Type} (m : Nat) (p313 : Int) (k331 : Bool → (List Int) → Option α) : g55 m p313 k331 =
    let x314 : Int := IntKind.wrap .u64 p313
    cond (decide (p313 < (0 : Int)))
     (
      let x316 : Int := IntKind.wrap .u64 (0 - x314)
      let x318 : Int := IntKind.wrap .u32 x316
      let x320 : Int := IntKind.wrap .u32 (Int.fdiv x316 (2 ^ 32))
      (g84 m) (decide (p313 < (0 : Int))) [x318, x320, 0, 0, 0, 0]
        (fun b325 =>
          k331 b325 [x318, x320, 0, 0, 0, 0]))
     (
      let x327 : Int := IntKind.wrap .u32 x314
      let x329 : Int := IntKind.wrap .u32 (Int.fdiv x314 (2 ^ 32))
      (g84 m) (decide (p313 < (0 : Int))) [x327, x329, 0, 0, 0, 0]
        (fun b330 =>
          k331 b330 [x327, x329, 0, 0, 0, 0])) := by kernel_rfl

theorem g86l2_s {α : Type} (v348 : Int) (v349 : Int) (a351 : List Int) (v352 : Int) (a353 : List Int) (a355 : List Int) (a356 : List Int) (k373 : Int → (List Int) → Option α) (m : Nat) (v350 : Int) (v354 : Int) (a357 : List Int) : g86l2 v348 v349 a351 v352 a353 a355 a356 k373 (m + 1) v350 v354 a357 =
    cond (decide (v354 < (6 : Int)))
     (
      if 0 ≤ v354 ∧ v354 < (6 : Nat) then
        let x363 : Int := IntKind.wrap .i64 (v348 + v354)
        if 0 ≤ x363 ∧ x363 < (12 : Nat) then
          if x363.toNat < 12 then
            let x367 : Int := IntKind.wrap .u64 (v350 + (IntKind.wrap .u64 ((IntKind.wrap .u64 ((IntKind.wrap .u64 v349) * (IntKind.wrap .u64 (List.getD a353 v354.toNat 0)))) + (IntKind.wrap .u64 (List.getD a357 x363.toNat 0)))))
            let x368 : Int := IntKind.wrap .i64 (v348 + v354)
            if 0 ≤ x368 ∧ x368 < (12 : Nat) then
              if x368.toNat < 12 then
                (g86l2 v348 v349 a351 v352 a353 a355 a356 k373 m) (Int.fdiv x367 (2 ^ 32)) (IntKind.wrap .i64 (v354 + (1 : Int))) (List.set a357 (x368.toNat) (IntKind.wrap .u32 x367))
              else
                none
            else
              none
          else
            none
        else
          none
      else
        none)
     (
      k373 v350 a357) := by kernel_rfl
theorem g86l2_z {α : Type} (v348 : Int) (v349 : Int) (a351 : List Int) (v352 : Int) (a353 : List Int) (a355 : List Int) (a356 : List Int) (k373 : Int → (List Int) → Option α) (v350 : Int) (v354 : Int) (a357 : List Int) : g86l2 v348 v349 a351 v352 a353 a355 a356 k373 0 v350 v354 a357 = none := by kernel_rfl
theorem g86l0_s {α : Type} (q : Nat) (a341 : List Int) (a343 : List Int) (a344 : List Int) (k381 : (List Int) → Option α) (m : Nat) (v342 : Int) (a345 : List Int) : g86l0 (g86l2M q) a341 a343 a344 k381 (m + 1) v342 a345 =
    cond (decide (v342 < (6 : Int)))
     (
      if 0 ≤ v342 ∧ v342 < (6 : Nat) then
        g86l2 v342 (List.getD a341 v342.toNat 0) a341 v342 a343 a343 a344
          (fun x375 l376 =>
            let x377 : Int := IntKind.wrap .i64 (v342 + (6 : Int))
            if 0 ≤ x377 ∧ x377 < (12 : Nat) then
              if x377.toNat < 12 then
                (g86l0 (g86l2M q) a341 a343 a344 k381 m) (IntKind.wrap .i64 (v342 + (1 : Int))) (List.set l376 (x377.toNat) (IntKind.wrap .u32 x375))
              else
                none
            else
              none)
          q (0 : Int) (0 : Int) a345
      else
        none)
     (
      k381 a345) := by kernel_rfl
theorem g86l0_z {α : Type} (q : Nat) (a341 : List Int) (a343 : List Int) (a344 : List Int) (k381 : (List Int) → Option α) (v342 : Int) (a345 : List Int) : g86l0 (g86l2M q) a341 a343 a344 k381 0 v342 a345 = none := by kernel_rfl
theorem g86l4_s {α : Type} (m384 : Nat) (m385 : Nat) (m386 : Nat) (v387 : Int) (a389 : List Int) (a390 : List Int) (k395 : (List Int) → Option α) (k396 : Option α) (m : Nat) (v388 : Int) : g86l4 m384 m385 m386 v387 a389 a390 k395 k396 (m + 1) v388 =
    cond (decide (v388 < v387))
     (
      if 0 ≤ v388 ∧ v388 < (m385 : Nat) then
        if (m384 + v388.toNat) < 12 then
          cond ((List.getD a390 (m384 + v388.toNat) 0) != (0 : Int))
           (
            k395 [0, 0, 0, 0, 0, 0])
           (
            (g86l4 m384 m385 m386 v387 a389 a390 k395 k396 m) (IntKind.wrap .i64 (v388 + (1 : Int))))
        else
          none
      else
        none)
     (
      k396) := by kernel_rfl
theorem g86l4_z {α : Type} (m384 : Nat) (m385 : Nat) (m386 : Nat) (v387 : Int) (a389 : List Int) (a390 : List Int) (k395 : (List Int) → Option α) (k396 : Option α) (v388 : Int) : g86l4 m384 m385 m386 v387 a389 a390 k395 k396 0 v388 = none := by kernel_rfl
theorem g86_o {α : Type} (m : Nat) (u339 : List Int) (u340 : List Int) (k400 : (List Int) → Bool → Option α) : g86 m u339 u340 k400 =
    g86l0 (g86l2M m) u339 u340 [0, 0, 0, 0, 0, 0]
      (fun l383 =>
        g86l4 6 6 6 (6 : Int) [0, 0, 0, 0, 0, 0] l383
          (fun l398 =>
            k400 l398 true)
          (
            k400 (List.take 6 (List.drop 0 l383)) false)
          m (0 : Int))
      m (0 : Int) [0, 0, 0, 0, 0, 0, 0, 0, 0, 0, 0, 0] := by kernel_rfl

theorem g54_o {α : Type} (m : Nat) (q334 : Bool) (u335 : List Int) (q336 : Bool) (u337 : List Int) (q338 : Bool) (k407 : Bool → (List Int) → Bool → Option α) : g54 m q334 u335 q336 u337 q338 k407 =
    (g86 m) u335 u337
      (fun l401 b402 =>
        cond q338
         (
          (g84 m) (!(q334 == q336)) l401
            (fun b404 =>
              k407 b404 l401 true))
         (
          (g84 m) (!(q334 == q336)) l401
            (fun b406 =>
              k407 b406 l401 b402))) := by kernel_rfl

theorem g69l0_s {α : Type} (a425 : List Int) (a426 : List Int) (k438 : Int → (List Int) → Option α) (m : Nat) (v422 : Int) (v423 : Int) (a424 : List Int) : g69l0 a425 a426 k438 (m + 1) v422 v423 a424 =
    cond (decide (v423 < (6 : Int)))
     (
      if 0 ≤ v423 ∧ v423 < (6 : Nat) then
        if v423.toNat < 6 then
          if 0 ≤ v423 ∧ v423 < (6 : Nat) then
            if v423.toNat < 6 then
              let x433 : Int := IntKind.wrap .u64 (v422 + (IntKind.wrap .u64 ((IntKind.wrap .u64 (List.getD a424 v423.toNat 0)) + (IntKind.wrap .u64 (List.getD a425 v423.toNat 0)))))
              if 0 ≤ v423 ∧ v423 < (6 : Nat) then
                if v423.toNat < 6 then
                  (g69l0 a425 a426 k438 m) (Int.fdiv x433 (2 ^ 32)) (IntKind.wrap .i64 (v423 + (1 : Int))) (List.set a424 (v423.toNat) (IntKind.wrap .u32 x433))
                else
                  none
              else
                none
            else
              none
          else
            none
        else
          none
      else
        none)
     (
      k438 v422 a424) := by kernel_rfl
theorem g69l0_z {α : Type} (a425 : List Int) (a426 : List Int) (k438 : Int → (List Int) → Option α) (v422 : Int) (v423 : Int) (a424 : List Int) : g69l0 a425 a426 k438 0 v422 v423 a424 = none := by kernel_rfl
theorem g69_o {α : Type} (m : Nat) (u420 : List Int) (u421 : List Int) (k443 : (List Int) → Bool → Option α) : g69 m u420 u421 k443 =
    g69l0 u421 [0, 0, 0, 0, 0, 0]
      (fun x440 l441 =>
        k443 l441 (x440 != (0 : Int)))
      m (0 : Int) (0 : Int) u420 := by kernel_rfl

theorem g70l0_s {α : Type} (a451 : List Int) (a452 : List Int) (k461 : Int → Option α) (k462 : Option α) (m : Nat) (v450 : Int) : g70l0 a451 a452 k461 k462 (m + 1) v450 =
    cond (decide (v450 ≥ (0 : Int)))
     (
      if 0 ≤ v450 ∧ v450 < (6 : Nat) then
        if v450.toNat < 6 then
          if 0 ≤ v450 ∧ v450 < (6 : Nat) then
            if v450.toNat < 6 then
              cond ((List.getD a451 v450.toNat 0) != (List.getD a452 v450.toNat 0))
               (
                if 0 ≤ v450 ∧ v450 < (6 : Nat) then
                  if v450.toNat < 6 then
                    if 0 ≤ v450 ∧ v450 < (6 : Nat) then
                      if v450.toNat < 6 then
                        cond (decide ((List.getD a451 v450.toNat 0) < (List.getD a452 v450.toNat 0)))
                         (
                          k461 (-1 : Int))
                         (
                          k461 (1 : Int))
                      else
                        none
                    else
                      none
                  else
                    none
                else
                  none)
               (
                (g70l0 a451 a452 k461 k462 m) (IntKind.wrap .i64 (v450 - (1 : Int))))
            else
              none
          else
            none
        else
          none
      else
        none)
     (
      k462) := by kernel_rfl
theorem g70l0_z {α : Type} (a451 : List Int) (a452 : List Int) (k461 : Int → Option α) (k462 : Option α) (v450 : Int) : g70l0 a451 a452 k461 k462 0 v450 = none := by kernel_rfl
theorem g70_o {α : Type} (m : Nat) (u448 : List Int) (u449 : List Int) (k465 : Int → Option α) : g70 m u448 u449 k465 =
    g70l0 u448 u449
      (fun x464 =>
        k465 x464)
      (
        k465 (0 : Int))
      m (5 : Int) := by kernel_rfl

theorem g85l0_s {α : Type} (a473 : List Int) (a474 : List Int) (k486 : (List Int) → Option α) (m : Nat) (v470 : Int) (v471 : Int) (a472 : List Int) : g85l0 a473 a474 k486 (m + 1) v470 v471 a472 =
    cond (decide (v471 < (6 : Int)))
     (
      if 0 ≤ v471 ∧ v471 < (6 : Nat) then
        if v471.toNat < 6 then
          if 0 ≤ v471 ∧ v471 < (6 : Nat) then
            if v471.toNat < 6 then
              let x481 : Int := IntKind.wrap .u64 ((IntKind.wrap .u64 ((IntKind.wrap .u64 (List.getD a472 v471.toNat 0)) - (IntKind.wrap .u64 (List.getD a473 v471.toNat 0)))) - v470)
              if 0 ≤ v471 ∧ v471 < (6 : Nat) then
                if v471.toNat < 6 then
                  (g85l0 a473 a474 k486 m) (Int.fdiv x481 (2 ^ 63)) (IntKind.wrap .i64 (v471 + (1 : Int))) (List.set a472 (v471.toNat) (IntKind.wrap .u32 x481))
                else
                  none
              else
                none
            else
              none
          else
            none
        else
          none
      else
        none)
     (
      k486 a472) := by kernel_rfl
theorem g85l0_z {α : Type} (a473 : List Int) (a474 : List Int) (k486 : (List Int) → Option α) (v470 : Int) (v471 : Int) (a472 : List Int) : g85l0 a473 a474 k486 0 v470 v471 a472 = none := by kernel_rfl
theorem g85_o {α : Type} (m : Nat) (u468 : List Int) (u469 : List Int) (k489 : (List Int) → Option α) : g85 m u468 u469 k489 =
    g85l0 u469 [0, 0, 0, 0, 0, 0]
      (fun l488 =>
        k489 l488)
      m (0 : Int) (0 : Int) u468 := by kernel_rfl

theorem g53_o {α : Type} (m : Nat) (q414 : Bool) (u415 : List Int) (q416 : Bool) (u417 : List Int) (q418 : Bool) (k494 : Bool → (List Int) → Bool → Option α) : g53 m q414 u415 q416 u417 q418 k494 =
    cond (q414 == q416)
     (
      (g69 m) u415 u417
        (fun l444 b445 =>
          cond q418
           (
            (g84 m) q414 l444
              (fun b446 =>
                k494 b446 l444 true))
           (
            (g84 m) q414 l444
              (fun b447 =>
                k494 b447 l444 b445))))
     (
      (g70 m) u415 u417
        (fun x466 =>
          cond (decide (x466 < (0 : Int)))
           (
            (g85 m) u417 u415
              (fun l490 =>
                (g84 m) q416 l490
                  (fun b491 =>
                    k494 b491 l490 q418)))
           (
            (g85 m) u415 u417
              (fun l492 =>
                (g84 m) q414 l492
                  (fun b493 =>
                    k494 b493 l492 q418))))) := by kernel_rfl

theorem g56_o {α : Type} (m : Nat) (q504 : Bool) (u505 : List Int) (q506 : Bool) (k507 : Bool → (List Int) → Int → Option α) : g56 m q504 u505 q506 k507 =
    cond q506
     (
      k507 false [0, 0, 0, 0, 0, 0] (3 : Int))
     (
      k507 q504 u505 (0 : Int)) := by kernel_rfl

theorem g21l0_s {α : Type} (q : Nat) (m299 : Nat) (m300 : Nat) (m301 : Nat) (v302 : Int) (m304 : Nat) (a305 : List Int) (c306 : Bool) (a307 : List Int) (k499 : Bool → Bool → (List Int) → Option α) (m : Nat) (v303 : Int) (c308 : Bool) (c309 : Bool) (a310 : List Int) : g21l0 (g55 q) (g54 q) (g53 q) m299 m300 m301 v302 m304 a305 c306 a307 k499 (m + 1) v303 c308 c309 a310 =
    cond (decide (v303 < v302))
     (
      if 0 ≤ v303 ∧ v303 < (m300 : Nat) then
        if (m299 + v303.toNat) < m304 then
          (g55 q) (2 : Int)
            (fun b332 l333 =>
              (g54 q) b332 l333 c309 a310 c308
                (fun b408 l409 b410 =>
                  (g55 q) (IntKind.wrap .i64 (List.getD a305 (m299 + v303.toNat) 0))
                    (fun b412 l413 =>
                      (g53 q) b408 l409 b412 l413 b410
                        (fun b495 l496 b497 =>
                          (g21l0 (g55 q) (g54 q) (g53 q) m299 m300 m301 v302 m304 a305 c306 a307 k499 m) (IntKind.wrap .i64 (v303 + (1 : Int))) b497 b495 l496))))
        else
          none
      else
        none)
     (
      k499 c308 c309 a310) := by kernel_rfl
theorem g21l0_z {α : Type} (q : Nat) (m299 : Nat) (m300 : Nat) (m301 : Nat) (v302 : Int) (m304 : Nat) (a305 : List Int) (c306 : Bool) (a307 : List Int) (k499 : Bool → Bool → (List Int) → Option α) (v303 : Int) (c308 : Bool) (c309 : Bool) (a310 : List Int) : g21l0 (g55 q) (g54 q) (g53 q) m299 m300 m301 v302 m304 a305 c306 a307 k499 0 v303 c308 c309 a310 = none := by kernel_rfl
theorem g21_o {α : Type} (m : Nat) (q246 : Bool) (u247 : List Int) (m248 : Nat) (m249 : Nat) (m250 : Nat) (m251 : Nat) (u252 : List Int) (k511 : Bool → (List Int) → Int → Option α) : g21 m q246 u247 m248 m249 m250 m251 u252 k511 =
    (g49 m) q246 u247
      (fun b258 =>
        cond (!b258)
         (
          k511 false [0, 0, 0, 0, 0, 0] (1 : Int))
         (
          (g50 m) m248 m249 m250 m251 u252
            (fun b297 =>
              cond b297
               (
                k511 false [0, 0, 0, 0, 0, 0] (1 : Int))
               (
                cond (decide (((m249 : Nat) : Int) > (64 : Int)))
                 (
                  k511 false [0, 0, 0, 0, 0, 0] (2 : Int))
                 (
                  g21l0 (g55 m) (g54 m) (g53 m) m248 m249 m250 ((m249 : Nat) : Int) m251 u252 false [0, 0, 0, 0, 0, 0]
                    (fun b501 b502 l503 =>
                      (g56 m) b502 l503 b501
                        (fun b508 l509 x510 =>
                          k511 b508 l509 x510))
                    m (0 : Int) false q246 u247))))) := by kernel_rfl

theorem g57l0_s {α : Type} (a523 : List Int) (a524 : List Int) (k530 : Option α) (k531 : Option α) (m : Nat) (v522 : Int) : g57l0 a523 a524 k530 k531 (m + 1) v522 =
    cond (decide (v522 < (6 : Int)))
     (
      if 0 ≤ v522 ∧ v522 < (6 : Nat) then
        if v522.toNat < 6 then
          if 0 ≤ v522 ∧ v522 < (6 : Nat) then
            if v522.toNat < 6 then
              cond ((List.getD a523 v522.toNat 0) != (List.getD a524 v522.toNat 0))
               (
                k530)
               (
                (g57l0 a523 a524 k530 k531 m) (IntKind.wrap .i64 (v522 + (1 : Int))))
            else
              none
          else
            none
        else
          none
      else
        none)
     (
      k531) := by kernel_rfl
theorem g57l0_z {α : Type} (a523 : List Int) (a524 : List Int) (k530 : Option α) (k531 : Option α) (v522 : Int) : g57l0 a523 a524 k530 k531 0 v522 = none := by kernel_rfl
theorem g57_o {α : Type} (m : Nat) (u520 : List Int) (u521 : List Int) (k533 : Bool → Option α) : g57 m u520 u521 k533 =
    g57l0 u520 u521
      (
        k533 false)
      (
        k533 true)
      m (0 : Int) := by kernel_rfl

theorem g22_o {α : Type} (m : Nat) (q515 : Bool) (u516 : List Int) (q517 : Bool) (u518 : List Int) (k536 : Bool → Option α) : g22 m q515 u516 q517 u518 k536 =
    cond (!(q515 == q517))
     (
      k536 false)
     (
      (g57 m) u516 u518
        (fun b534 =>
          cond (!b534)
           (
            k536 false)
           (
            k536 true))) := by kernel_rfl

theorem g23l0_s {α : Type} (m552 : Nat) (m553 : Nat) (m554 : Nat) (m555 : Nat) (m556 : Nat) (m557 : Nat) (m559 : Nat) (a560 : List Int) (m561 : Nat) (a562 : List Int) (k568 : Option α) (k569 : Option α) (m : Nat) (v558 : Int) : g23l0 m552 m553 m554 m555 m556 m557 m559 a560 m561 a562 k568 k569 (m + 1) v558 =
    cond (decide (v558 < ((m553 : Nat) : Int)))
     (
      if 0 ≤ v558 ∧ v558 < (m553 : Nat) then
        if (m552 + v558.toNat) < m559 then
          if 0 ≤ v558 ∧ v558 < (m556 : Nat) then
            if (m555 + v558.toNat) < m561 then
              cond ((List.getD a560 (m552 + v558.toNat) 0) != (List.getD a562 (m555 + v558.toNat) 0))
               (
                k568)
               (
                (g23l0 m552 m553 m554 m555 m556 m557 m559 a560 m561 a562 k568 k569 m) (IntKind.wrap .i64 (v558 + (1 : Int))))
            else
              none
          else
            none
        else
          none
      else
        none)
     (
      k569) := by kernel_rfl
theorem g23l0_z {α : Type} (m552 : Nat) (m553 : Nat) (m554 : Nat) (m555 : Nat) (m556 : Nat) (m557 : Nat) (m559 : Nat) (a560 : List Int) (m561 : Nat) (a562 : List Int) (k568 : Option α) (k569 : Option α) (v558 : Int) : g23l0 m552 m553 m554 m555 m556 m557 m559 a560 m561 a562 k568 k569 0 v558 = none := by kernel_rfl
theorem g23_o {α : Type} (m : Nat) (m541 : Nat) (m542 : Nat) (m543 : Nat) (m544 : Nat) (m545 : Nat) (m546 : Nat) (m547 : Nat) (u548 : List Int) (m549 : Nat) (u550 : List Int) (k571 : Bool → Option α) : g23 m m541 m542 m543 m544 m545 m546 m547 u548 m549 u550 k571 =
    cond (((m542 : Nat) : Int) != ((m545 : Nat) : Int))
     (
      k571 false)
     (
      g23l0 m541 m542 m543 m544 m545 m546 m547 u548 m549 u550
        (
          k571 false)
        (
          k571 true)
        m (0 : Int)) := by kernel_rfl

theorem g5_o {α : Type} (m : Nat) (q1 : Bool) (u2 : List Int) (m3 : Nat) (m4 : Nat) (m5 : Nat) (m6 : Nat) (u7 : List Int) (k574 : Bool → Option α) : g5 m q1 u2 m3 m4 m5 m6 u7 k574 =
    cond (decide (((m4 : Nat) : Int) > (1048576 : Int)))
     (
      k574 true)
     (
      (g19 m) q1 u2
        (fun l26 =>
          (g20 m) m3 m4 m5 m6 u7
            (fun l52 =>
              (g18 m) q1 l26 0 m4 m4 m4 l52
                (fun b241 l242 x243 =>
                  (g20 m) m3 m4 m5 m6 u7
                    (fun l244 =>
                      (g19 m) q1 u2
                        (fun l245 =>
                          (g21 m) q1 l245 0 m4 m4 m4 l244
                            (fun b512 l513 x514 =>
                              (g22 m) b512 l513 b241 l242
                                (fun b537 =>
                                  cond (!b537)
                                   (
                                    k574 false)
                                   (
                                    cond (x514 != x243)
                                     (
                                      k574 false)
                                     (
                                      (g20 m) m3 m4 m5 m6 u7
                                        (fun l540 =>
                                          (g23 m) 0 m4 m4 0 m4 m4 m4 l244 m4 l540
                                            (fun b572 =>
                                              cond (!b572)
                                               (
                                                k574 false)
                                               (
                                                k574 true))))))))))))) := by kernel_rfl

theorem g81_o {α : Type} (m : Nat) (p594 : Int) (p595 : Int) (p596 : Int) (k599 : Bool → Option α) : g81 m p594 p595 p596 k599 =
    cond (decide (p594 ≥ p595))
     (
      k599 (decide (p594 ≤ p596)))
     (
      k599 false) := by kernel_rfl

theorem g58_o {α : Type} (m : Nat) (p593 : Int) (k601 : Bool → Option α) : g58 m p593 k601 =
    (g81 m) p593 (0 : Int) (64 : Int)
      (fun b600 =>
        k601 b600) := by kernel_rfl

theorem g101l2_s {α : Type} (v619 : Int) (a622 : List Int) (k626 : Int → Option α) (m : Nat) (v620 : Int) (v621 : Int) : g101l2 v619 a622 k626 (m + 1) v620 v621 =
    cond (decide (v621 > (0 : Int)))
     (
      (g101l2 v619 a622 k626 m) (IntKind.wrap .i64 (v620 + (1 : Int))) (Int.fdiv v621 (2 ^ 1)))
     (
      k626 v620) := by kernel_rfl
theorem g101l2_z {α : Type} (v619 : Int) (a622 : List Int) (k626 : Int → Option α) (v620 : Int) (v621 : Int) : g101l2 v619 a622 k626 0 v620 v621 = none := by kernel_rfl
theorem g101l0_s {α : Type} (q : Nat) (a613 : List Int) (k631 : Int → Option α) (k632 : Option α) (m : Nat) (v612 : Int) : g101l0 (g101l2M q) a613 k631 k632 (m + 1) v612 =
    cond (decide (v612 ≥ (0 : Int)))
     (
      if 0 ≤ v612 ∧ v612 < (6 : Nat) then
        if v612.toNat < 6 then
          cond ((List.getD a613 v612.toNat 0) == (0 : Int))
           (
            (g101l0 (g101l2M q) a613 k631 k632 m) (IntKind.wrap .i64 (v612 - (1 : Int))))
           (
            if 0 ≤ v612 ∧ v612 < (6 : Nat) then
              if v612.toNat < 6 then
                g101l2 v612 a613
                  (fun x628 =>
                    k631 (IntKind.wrap .i64 ((IntKind.wrap .i64 ((32 : Int) * v612)) + x628)))
                  q (0 : Int) (List.getD a613 v612.toNat 0)
              else
                none
            else
              none)
        else
          none
      else
        none)
     (
      k632) := by kernel_rfl
theorem g101l0_z {α : Type} (q : Nat) (a613 : List Int) (k631 : Int → Option α) (k632 : Option α) (v612 : Int) : g101l0 (g101l2M q) a613 k631 k632 0 v612 = none := by kernel_rfl
theorem g101_o {α : Type} (m : Nat) (u611 : List Int) (k635 : Int → Option α) : g101 m u611 k635 =
    g101l0 (g101l2M m) u611
      (fun x634 =>
        k635 x634)
      (
        k635 (0 : Int))
      m (5 : Int) := by kernel_rfl

theorem g87l0_s {α : Type} (v641 : Int) (a643 : List Int) (a644 : List Int) (k669 : (List Int) → Option α) (m : Nat) (v642 : Int) (a645 : List Int) : g87l0 v641 a643 a644 k669 (m + 1) v642 a645 =
    cond (decide (v642 < (6 : Int)))
     (
      let x648 : Int := IntKind.wrap .i64 (v642 + (IntKind.wrap .i64 (Int.tdiv v641 (32 : Int))))
      cond (decide (x648 ≥ (6 : Int)))
       (
        k669 a645)
       (
        if 0 ≤ v642 ∧ v642 < (6 : Nat) then
          if v642.toNat < 6 then
            let x653 : Int := IntKind.wrap .u64 (Int.tmod v641 (32 : Int))
            if x653 < 0 then
              none
            else
              let x654 : Int := IntKind.wrap .u64 ((IntKind.wrap .u64 (List.getD a643 v642.toNat 0)) * 2 ^ (min x653.toNat 64))
              if 0 ≤ x648 ∧ x648 < (6 : Nat) then
                if x648.toNat < 6 then
                  if 0 ≤ x648 ∧ x648 < (6 : Nat) then
                    if x648.toNat < 6 then
                      let l658 : List Int := List.set a645 (x648.toNat) (ibits .or .u32 (List.getD a645 x648.toNat 0) (IntKind.wrap .u32 x654))
                      cond (decide ((IntKind.wrap .i64 (x648 + (1 : Int))) < (6 : Int)))
                       (
                        let x661 : Int := IntKind.wrap .i64 (x648 + (1 : Int))
                        if 0 ≤ x661 ∧ x661 < (6 : Nat) then
                          if x661.toNat < 6 then
                            if 0 ≤ x661 ∧ x661 < (6 : Nat) then
                              if x661.toNat < 6 then
                                (g87l0 v641 a643 a644 k669 m) (IntKind.wrap .i64 (v642 + (1 : Int))) (List.set l658 (x661.toNat) (ibits .or .u32 (List.getD l658 x661.toNat 0) (IntKind.wrap .u32 (Int.fdiv x654 (2 ^ 32)))))
                              else
                                none
                            else
                              none
                          else
                            none
                        else
                          none)
                       (
                        (g87l0 v641 a643 a644 k669 m) (IntKind.wrap .i64 (v642 + (1 : Int))) l658)
                    else
                      none
                  else
                    none
                else
                  none
              else
                none
          else
            none
        else
          none))
     (
      k669 a645) := by kernel_rfl
theorem g87l0_z {α : Type} (v641 : Int) (a643 : List Int) (a644 : List Int) (k669 : (List Int) → Option α) (v642 : Int) (a645 : List Int) : g87l0 v641 a643 a644 k669 0 v642 a645 = none := by kernel_rfl
theorem g87_o {α : Type} (m : Nat) (p609 : Int) (u610 : List Int) (k673 : (List Int) → Bool → Option α) : g87 m p609 u610 k673 =
    (g101 m) u610
      (fun x636 =>
        cond (decide ((IntKind.wrap .i64 (x636 + p609)) > (192 : Int)))
         (
          (g102 m) u610
            (fun b639 =>
              cond (!b639)
               (
                k673 [0, 0, 0, 0, 0, 0] false)
               (
                g87l0 p609 u610 [0, 0, 0, 0, 0, 0]
                  (fun l671 =>
                    k673 l671 true)
                  m (0 : Int) [0, 0, 0, 0, 0, 0])))
         (
          g87l0 p609 u610 [0, 0, 0, 0, 0, 0]
            (fun l672 =>
              k673 l672 true)
            m (0 : Int) [0, 0, 0, 0, 0, 0])) := by kernel_rfl

theorem g59_o {α : Type} (m : Nat) (q606 : Bool) (u607 : List Int) (p608 : Int) (k678 : Bool → (List Int) → Int → Option α) : g59 m q606 u607 p608 k678 =
    (g87 m) p608 u607
      (fun l674 b675 =>
        cond (!b675)
         (
          k678 false [0, 0, 0, 0, 0, 0] (3 : Int))
         (
          (g88 m) q606 l674
            (fun b677 =>
              k678 b677 l674 (0 : Int)))) := by kernel_rfl

theorem g61_o {α : Type} (m : Nat) (q683 : Bool) (u684 : List Int) (k687 : Bool → Option α) : g61 m q683 u684 k687 =
    (g88 m) (!q683) u684
      (fun b686 =>
        k687 b686) := by kernel_rfl

theorem g63_o {α : Type} (m : Nat) (q703 : Bool) (u704 : List Int) (q705 : Bool) (u706 : List Int) (k718 : Int → Option α) : g63 m q703 u704 q705 u706 k718 =
    cond q703
     (
      cond (!q705)
       (
        k718 (-1 : Int))
       (
        cond (!q703)
         (
          cond q705
           (
            k718 (1 : Int))
           (
            cond q703
             (
              (g90 m) u706 u704
                (fun x709 =>
                  k718 x709))
             (
              (g90 m) u704 u706
                (fun x710 =>
                  k718 x710))))
         (
          cond q703
           (
            (g90 m) u706 u704
              (fun x711 =>
                k718 x711))
           (
            (g90 m) u704 u706
              (fun x712 =>
                k718 x712)))))
     (
      cond (!q703)
       (
        cond q705
         (
          k718 (1 : Int))
         (
          cond q703
           (
            (g90 m) u706 u704
              (fun x714 =>
                k718 x714))
           (
            (g90 m) u704 u706
              (fun x715 =>
                k718 x715))))
       (
        cond q703
         (
          (g90 m) u706 u704
            (fun x716 =>
              k718 x716))
         (
          (g90 m) u704 u706
            (fun x717 =>
              k718 x717)))) := by kernel_rfl

theorem g24_o {α : Type} (m : Nat) (q583 : Bool) (u584 : List Int) (q585 : Bool) (u586 : List Int) (p587 : Int) (p588 : Int) (k721 : Bool → Int → Option α) : g24 m q583 u584 q585 u586 p587 p588 k721 =
    (g46 m) q583 u584
      (fun b589 =>
        cond (!b589)
         (
          k721 false (1 : Int))
         (
          (g46 m) q585 u586
            (fun b591 =>
              cond (!b591)
               (
                k721 false (1 : Int))
               (
                (g58 m) p587
                  (fun b602 =>
                    cond (!b602)
                     (
                      k721 false (2 : Int))
                     (
                      (g58 m) p588
                        (fun b604 =>
                          cond (!b604)
                           (
                            k721 false (2 : Int))
                           (
                            (g59 m) q583 u584 p588
                              (fun b679 l680 x681 =>
                                cond (x681 != (0 : Int))
                                 (
                                  k721 false x681)
                                 (
                                  (g61 m) q585 u586
                                    (fun b688 =>
                                      (g60 m) b679 l680 b688 u586
                                        (fun b689 l690 x691 =>
                                          cond (x691 != (0 : Int))
                                           (
                                            k721 false x691)
                                           (
                                            (g62 m) (1 : Int)
                                              (fun b693 l694 =>
                                                (g59 m) b693 l694 p588
                                                  (fun b695 l696 x697 =>
                                                    (g62 m) (1 : Int)
                                                      (fun b698 l699 =>
                                                        (g60 m) b695 l696 b698 l699
                                                          (fun b700 l701 x702 =>
                                                            (g63 m) false l690 b700 l701
                                                              (fun x719 =>
                                                                k721 (decide (x719 ≤ (0 : Int))) (0 : Int))))))))))))))))))) := by kernel_rfl

theorem g64_o {α : Type} (m : Nat) (p736 : Int) (p737 : Int) (p738 : Int) (k741 : Bool → Option α) : g64 m p736 p737 p738 k741 =
    cond (decide (p736 ≥ p737))
     (
      k741 (decide (p736 ≤ p738)))
     (
      k741 false) := by kernel_rfl

theorem g103_o {α : Type} (m : Nat) (p759 : Int) (k782 : Int → Option α) : g103 m p759 k782 =
    cond (decide (p759 ≥ (65536 : Int)))
     (
      let x761 : Int := Int.fdiv p759 (2 ^ 16)
      cond (decide (x761 ≥ (256 : Int)))
       (
        let x764 : Int := IntKind.wrap .u8 (Int.fdiv x761 (2 ^ 8))
        if 0 ≤ x764 ∧ x764 < strC0.size then
          k782 (IntKind.wrap .i64 ((24 : Int) + (IntKind.wrap .i64 (byteAt strC0 x764.toNat))))
        else
          none)
       (
        let x768 : Int := IntKind.wrap .u8 x761
        if 0 ≤ x768 ∧ x768 < strC0.size then
          k782 (IntKind.wrap .i64 ((16 : Int) + (IntKind.wrap .i64 (byteAt strC0 x768.toNat))))
        else
          none))
     (
      cond (decide (p759 ≥ (256 : Int)))
       (
        let x774 : Int := IntKind.wrap .u8 (Int.fdiv p759 (2 ^ 8))
        if 0 ≤ x774 ∧ x774 < strC0.size then
          k782 (IntKind.wrap .i64 ((8 : Int) + (IntKind.wrap .i64 (byteAt strC0 x774.toNat))))
        else
          none)
       (
        let x778 : Int := IntKind.wrap .u8 p759
        if 0 ≤ x778 ∧ x778 < strC0.size then
          k782 (IntKind.wrap .i64 ((0 : Int) + (IntKind.wrap .i64 (byteAt strC0 x778.toNat))))
        else
          none)) := by kernel_rfl

theorem g93l0_s {α : Type} (q : Nat) (a753 : List Int) (k786 : Int → Option α) (k787 : Option α) (m : Nat) (v752 : Int) : g93l0 (g103 q) a753 k786 k787 (m + 1) v752 =
    cond (decide (v752 ≥ (0 : Int)))
     (
      if 0 ≤ v752 ∧ v752 < (6 : Nat) then
        if v752.toNat < 6 then
          cond ((List.getD a753 v752.toNat 0) != (0 : Int))
           (
            if 0 ≤ v752 ∧ v752 < (6 : Nat) then
              if v752.toNat < 6 then
                (g103 q) (List.getD a753 v752.toNat 0)
                  (fun x783 =>
                    k786 (IntKind.wrap .i64 ((IntKind.wrap .i64 ((32 : Int) * v752)) + x783)))
              else
                none
            else
              none)
           (
            (g93l0 (g103 q) a753 k786 k787 m) (IntKind.wrap .i64 (v752 - (1 : Int))))
        else
          none
      else
        none)
     (
      k787) := by kernel_rfl
theorem g93l0_z {α : Type} (q : Nat) (a753 : List Int) (k786 : Int → Option α) (k787 : Option α) (v752 : Int) : g93l0 (g103 q) a753 k786 k787 0 v752 = none := by kernel_rfl
theorem g93_o {α : Type} (m : Nat) (u751 : List Int) (k790 : Int → Option α) : g93 m u751 k790 =
    g93l0 (g103 m) u751
      (fun x789 =>
        k790 x789)
      (
        k790 (0 : Int))
      m (5 : Int) := by kernel_rfl

theorem g68l0_s {α : Type} (v798 : Int) (v799 : Int) (a801 : List Int) (a802 : List Int) (k822 : (List Int) → Option α) (m : Nat) (v800 : Int) (a803 : List Int) : g68l0 v798 v799 a801 a802 k822 (m + 1) v800 a803 =
    cond (decide (v800 ≥ v798))
     (
      let x805 : Int := IntKind.wrap .i64 (v800 - v798)
      if 0 ≤ x805 ∧ x805 < (6 : Nat) then
        if x805.toNat < 6 then
          if v799 < 0 then
            none
          else
            if 0 ≤ v800 ∧ v800 < (6 : Nat) then
              if v800.toNat < 6 then
                let l808 : List Int := List.set a803 (v800.toNat) (IntKind.wrap .u32 ((List.getD a801 x805.toNat 0) * 2 ^ (min v799.toNat 32)))
                cond (decide (v799 > (0 : Int)))
                 (
                  cond (decide (v800 > v798))
                   (
                    if 0 ≤ v800 ∧ v800 < (6 : Nat) then
                      if v800.toNat < 6 then
                        let x813 : Int := IntKind.wrap .i64 ((IntKind.wrap .i64 (v800 - v798)) - (1 : Int))
                        if 0 ≤ x813 ∧ x813 < (6 : Nat) then
                          if x813.toNat < 6 then
                            let x815 : Int := IntKind.wrap .i64 ((32 : Int) - v799)
                            if x815 < 0 then
                              none
                            else
                              if 0 ≤ v800 ∧ v800 < (6 : Nat) then
                                if v800.toNat < 6 then
                                  (g68l0 v798 v799 a801 a802 k822 m) (IntKind.wrap .i64 (v800 - (1 : Int))) (List.set l808 (v800.toNat) (ibits .or .u32 (List.getD l808 v800.toNat 0) (Int.fdiv (List.getD a801 x813.toNat 0) (2 ^ (min x815.toNat 32)))))
                                else
                                  none
                              else
                                none
                          else
                            none
                        else
                          none
                      else
                        none
                    else
                      none)
                   (
                    (g68l0 v798 v799 a801 a802 k822 m) (IntKind.wrap .i64 (v800 - (1 : Int))) l808))
                 (
                  (g68l0 v798 v799 a801 a802 k822 m) (IntKind.wrap .i64 (v800 - (1 : Int))) l808)
              else
                none
            else
              none
        else
          none
      else
        none)
     (
      k822 a803) := by kernel_rfl
theorem g68l0_z {α : Type} (v798 : Int) (v799 : Int) (a801 : List Int) (a802 : List Int) (k822 : (List Int) → Option α) (v800 : Int) (a803 : List Int) : g68l0 v798 v799 a801 a802 k822 0 v800 a803 = none := by kernel_rfl
theorem g68_o {α : Type} (m : Nat) (u794 : List Int) (p795 : Int) (k825 : (List Int) → Option α) : g68 m u794 p795 k825 =
    g68l0 (IntKind.wrap .i64 (Int.tdiv p795 (32 : Int))) (Int.tmod p795 (32 : Int)) u794 [0, 0, 0, 0, 0, 0]
      (fun l824 =>
        k825 l824)
      m (5 : Int) [0, 0, 0, 0, 0, 0] := by kernel_rfl

theorem g66_o {α : Type} (m : Nat) (q746 : Bool) (u747 : List Int) (p748 : Int) (q749 : Bool) (k828 : Bool → (List Int) → Bool → Option α) : g66 m q746 u747 p748 q749 k828 =
    cond (decide (p748 > (191 : Int)))
     (
      k828 false [0, 0, 0, 0, 0, 0] true)
     (
      (g93 m) u747
        (fun x791 =>
          cond (decide ((IntKind.wrap .i64 (x791 + p748)) > (192 : Int)))
           (
            k828 false [0, 0, 0, 0, 0, 0] true)
           (
            (g68 m) u747 p748
              (fun l826 =>
                (g84 m) q746 l826
                  (fun b827 =>
                    k828 b827 l826 q749))))) := by kernel_rfl

theorem g92_o {α : Type} (m : Nat) (q837 : Bool) (u838 : List Int) (k841 : Bool → Option α) : g92 m q837 u838 k841 =
    (g84 m) (!q837) u838
      (fun b840 =>
        k841 b840) := by kernel_rfl

theorem g65_o {α : Type} (m : Nat) (q832 : Bool) (u833 : List Int) (q834 : Bool) (u835 : List Int) (q836 : Bool) (k846 : Bool → (List Int) → Bool → Option α) : g65 m q832 u833 q834 u835 q836 k846 =
    (g92 m) q834 u835
      (fun b842 =>
        (g53 m) q832 u833 b842 u835 q836
          (fun b843 l844 b845 =>
            k846 b843 l844 b845)) := by kernel_rfl

theorem g67_o {α : Type} (m : Nat)  (k850 : (List Int) → Option α) : g67 m  k850 =
    k850 [(1 : Int), 0, 0, 0, 0, 0] := by kernel_rfl

theorem g25_o {α : Type} (m : Nat) (q726 : Bool) (u727 : List Int) (q728 : Bool) (u729 : List Int) (p730 : Int) (p731 : Int) (k858 : Bool → Int → Option α) : g25 m q726 u727 q728 u729 p730 p731 k858 =
    (g49 m) q726 u727
      (fun b732 =>
        cond (!b732)
         (
          k858 false (1 : Int))
         (
          (g49 m) q728 u729
            (fun b734 =>
              cond (!b734)
               (
                k858 false (1 : Int))
               (
                (g64 m) p730 (0 : Int) (64 : Int)
                  (fun b742 =>
                    cond (!b742)
                     (
                      k858 false (2 : Int))
                     (
                      (g64 m) p731 (0 : Int) (64 : Int)
                        (fun b744 =>
                          cond (!b744)
                           (
                            k858 false (2 : Int))
                           (
                            (g66 m) q726 u727 p731 false
                              (fun b829 l830 b831 =>
                                (g65 m) b829 l830 q728 u729 b831
                                  (fun b847 l848 b849 =>
                                    cond b849
                                     (
                                      k858 false (3 : Int))
                                     (
                                      (g67 m)
                                        (fun l851 =>
                                          (g68 m) l851 p731
                                            (fun l852 =>
                                              (g67 m)
                                                (fun l853 =>
                                                  (g69 m) l852 l853
                                                    (fun l854 b855 =>
                                                      (g70 m) l848 l854
                                                        (fun x856 =>
                                                          k858 (decide (x856 ≤ (0 : Int))) (0 : Int))))))))))))))))) := by kernel_rfl

theorem g6_o {α : Type} (m : Nat) (q575 : Bool) (u576 : List Int) (q577 : Bool) (u578 : List Int) (p579 : Int) (p580 : Int) (k863 : Bool → Option α) : g6 m q575 u576 q577 u578 p579 p580 k863 =
    (g19 m) q575 u576
      (fun l581 =>
        (g19 m) q577 u578
          (fun l582 =>
            (g24 m) q575 l581 q577 l582 p579 p580
              (fun b722 x723 =>
                (g19 m) q575 u576
                  (fun l724 =>
                    (g19 m) q577 u578
                      (fun l725 =>
                        (g25 m) q575 l724 q577 l725 p579 p580
                          (fun b859 x860 =>
                            cond (!(b859 == b722))
                             (
                              k863 false)
                             (
                              cond (x860 != x723)
                               (
                                k863 false)
                               (
                                k863 true)))))))) := by kernel_rfl
end Go.Proofs.Ytobejeiffgehfaa.Sx
