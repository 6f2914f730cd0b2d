/- Equations that open the functions. Printed by our own sx.py. -/
import Derived.Test.YtobejeiffgehfaaSxV
namespace Go.Proofs.Ytobejeiffgehfaa.Sx
open Go
set_option linter.unusedVariables false
set_option maxRecDepth 100000
set_option linter.unusedVariables false
theorem g11_o {α : Type} (m : Nat) (m11 : Nat) (m12 : Nat) (m13 : Nat) (p14 : Int) (m15 : Nat) (u16 : List (List Int)) (k19 : Int → Option α) : g11 m m11 m12 m13 p14 m15 u16 k19 =
    let x17 : Int := IntKind.wrap .i64 (p14 - ((m12 : Nat) : Int))
    cond (decide (x17 < (0 : Int)))
     (
      k19 (-1 : Int))
     (
      k19 x17) := by kernel_rfl

theorem g39_o {α : Type} (m : Nat) (p47 : Int) (p48 : Int) (p49 : Int) (p50 : Int) (p51 : Int) (k52 : Option α) : g39 m p47 p48 p49 p50 p51 k52 =
    k52 := by kernel_rfl

theorem g13l0_s {α : Type} (q : Nat) (m30 : Nat) (m31 : Nat) (m32 : Nat) (m33 : Nat) (m34 : Nat) (m35 : Nat) (m37 : Nat) (a38 : List (List Int)) (m39 : Nat) (k55 : (List (List Int)) → Option α) (m : Nat) (v36 : Int) (a40 : List (List Int)) : g13l0 (g39 q) m30 m31 m32 m33 m34 m35 m37 a38 m39 k55 (m + 1) v36 a40 =
    cond (decide (v36 < ((m31 : Nat) : Int)))
     (
      if 0 ≤ v36 ∧ v36 < (m31 : Nat) then
        if (m30 + v36.toNat) < m37 then
          let x42 : Int := (List.getD a38 (m30 + v36.toNat) []).headD 0
          let x43 : Int := (List.getD a38 (m30 + v36.toNat) []).tail.headD 0
          let x44 : Int := (List.getD a38 (m30 + v36.toNat) []).tail.tail.headD 0
          let x45 : Int := (List.getD a38 (m30 + v36.toNat) []).tail.tail.tail.headD 0
          let x46 : Int := (List.getD a38 (m30 + v36.toNat) []).tail.tail.tail.tail.headD 0
          (g39 q) x42 x43 x44 x45 x46
            (
              if 0 ≤ v36 ∧ v36 < (m34 : Nat) then
                if (m33 + v36.toNat) < m39 then
                  (g13l0 (g39 q) m30 m31 m32 m33 m34 m35 m37 a38 m39 k55 m) (IntKind.wrap .i64 (v36 + (1 : Int))) (List.set a40 (m33 + v36.toNat) [x42, x43, x44, x45, x46])
                else
                  none
              else
                none)
        else
          none
      else
        none)
     (
      k55 a40) := by kernel_rfl
theorem g13l0_z {α : Type} (q : Nat) (m30 : Nat) (m31 : Nat) (m32 : Nat) (m33 : Nat) (m34 : Nat) (m35 : Nat) (m37 : Nat) (a38 : List (List Int)) (m39 : Nat) (k55 : (List (List Int)) → Option α) (v36 : Int) (a40 : List (List Int)) : g13l0 (g39 q) m30 m31 m32 m33 m34 m35 m37 a38 m39 k55 0 v36 a40 = none := by kernel_rfl
theorem g13_o {α : Type} (m : Nat) (m24 : Nat) (m25 : Nat) (m26 : Nat) (m27 : Nat) (u28 : List (List Int)) (k58 : (List (List Int)) → Option α) : g13 m m24 m25 m26 m27 u28 k58 =
    if ((m25 : Nat) : Int) = ((m25 : Nat) : Int) ∧ 0 ≤ ((m25 : Nat) : Int) ∧ ((m25 : Nat) : Int) ≤ 1048576 then
      g13l0 (g39 m) m24 m25 m26 0 m25 m25 m27 u28 m25
        (fun l57 =>
          k58 l57)
        m (0 : Int) (List.replicate m25 ([] : List Int))
    else
      none := by kernel_rfl

theorem g81_o {α : Type} (m : Nat) (p76 : Int) (p77 : Int) (p78 : Int) (k81 : Bool → Option α) : g81 m p76 p77 p78 k81 =
    cond (decide (p76 ≥ p77))
     (
      k81 (decide (p76 ≤ p78)))
     (
      k81 false) := by kernel_rfl

theorem g95_o {α : Type} (m : Nat) (p100 : Int) (k104 : Bool → Option α) : g95 m p100 k104 =
    cond (p100 == (6 : Int))
     (
      k104 true)
     (
      cond (p100 == (7 : Int))
       (
        k104 true)
       (
        k104 (p100 == (10 : Int)))) := by kernel_rfl

theorem g96_o {α : Type} (m : Nat) (p116 : Int) (k123 : Bool → Option α) : g96 m p116 k123 =
    cond (decide (p116 ≥ (2 : Int)))
     (
      cond (decide (p116 ≤ (5 : Int)))
       (
        k123 true)
       (
        cond (p116 == (8 : Int))
         (
          k123 true)
         (
          k123 (p116 == (9 : Int)))))
     (
      cond (p116 == (8 : Int))
       (
        k123 true)
       (
        k123 (p116 == (9 : Int)))) := by kernel_rfl

theorem g82_o {α : Type} (m : Nat) (m91 : Nat) (p92 : Int) (m93 : Nat) (u94 : List (List Int)) (k164 : Bool → Option α) : g82 m m91 p92 m93 u94 k164 =
    if m91 < m93 then
      cond (decide (((List.getD u94 m91 []).headD 0) < (1 : Int)))
       (
        k164 false)
       (
        if m91 < m93 then
          cond (decide (((List.getD u94 m91 []).headD 0) > (12 : Int)))
           (
            k164 false)
           (
            if m91 < m93 then
              (g95 m) ((List.getD u94 m91 []).headD 0)
                (fun b105 =>
                  cond b105
                   (
                    if m91 < m93 then
                      (g81 m) (IntKind.wrap .i64 (((List.getD u94 m91 []).tail).headD 0)) (0 : Int) (IntKind.wrap .i64 (p92 - (1 : Int)))
                        (fun b109 =>
                          cond (!b109)
                           (
                            k164 false)
                           (
                            if m91 < m93 then
                              cond ((((List.getD u94 m91 []).tail.tail.tail).headD 0) != (0 : Int))
                               (
                                k164 false)
                               (
                                if m91 < m93 then
                                  cond ((((List.getD u94 m91 []).tail.tail.tail.tail).headD 0) != (0 : Int))
                                   (
                                    k164 false)
                                   (
                                    if m91 < m93 then
                                      (g96 m) ((List.getD u94 m91 []).headD 0)
                                        (fun b124 =>
                                          cond b124
                                           (
                                            if m91 < m93 then
                                              (g81 m) (IntKind.wrap .i64 (((List.getD u94 m91 []).tail.tail).headD 0)) (0 : Int) (IntKind.wrap .i64 (p92 - (1 : Int)))
                                                (fun b128 =>
                                                  k164 b128)
                                            else
                                              none)
                                           (
                                            if m91 < m93 then
                                              k164 ((((List.getD u94 m91 []).tail.tail).headD 0) == (0 : Int))
                                            else
                                              none))
                                    else
                                      none)
                                else
                                  none)
                            else
                              none))
                    else
                      none)
                   (
                    if m91 < m93 then
                      (g96 m) ((List.getD u94 m91 []).headD 0)
                        (fun b132 =>
                          cond b132
                           (
                            if m91 < m93 then
                              (g81 m) (IntKind.wrap .i64 (((List.getD u94 m91 []).tail).headD 0)) (0 : Int) (IntKind.wrap .i64 (p92 - (1 : Int)))
                                (fun b136 =>
                                  cond (!b136)
                                   (
                                    k164 false)
                                   (
                                    if m91 < m93 then
                                      cond ((((List.getD u94 m91 []).tail.tail.tail).headD 0) != (0 : Int))
                                       (
                                        k164 false)
                                       (
                                        if m91 < m93 then
                                          cond ((((List.getD u94 m91 []).tail.tail.tail.tail).headD 0) != (0 : Int))
                                           (
                                            k164 false)
                                           (
                                            if m91 < m93 then
                                              (g96 m) ((List.getD u94 m91 []).headD 0)
                                                (fun b143 =>
                                                  cond b143
                                                   (
                                                    if m91 < m93 then
                                                      (g81 m) (IntKind.wrap .i64 (((List.getD u94 m91 []).tail.tail).headD 0)) (0 : Int) (IntKind.wrap .i64 (p92 - (1 : Int)))
                                                        (fun b147 =>
                                                          k164 b147)
                                                    else
                                                      none)
                                                   (
                                                    if m91 < m93 then
                                                      k164 ((((List.getD u94 m91 []).tail.tail).headD 0) == (0 : Int))
                                                    else
                                                      none))
                                            else
                                              none)
                                        else
                                          none)
                                    else
                                      none))
                            else
                              none)
                           (
                            if m91 < m93 then
                              cond ((((List.getD u94 m91 []).tail).headD 0) != (0 : Int))
                               (
                                k164 false)
                               (
                                if m91 < m93 then
                                  cond ((((List.getD u94 m91 []).tail.tail).headD 0) != (0 : Int))
                                   (
                                    k164 false)
                                   (
                                    if m91 < m93 then
                                      cond (((List.getD u94 m91 []).headD 0) == (1 : Int))
                                       (
                                        if m91 < m93 then
                                          (g81 m) (((List.getD u94 m91 []).tail.tail.tail).headD 0) (-1000000000 : Int) (1000000000 : Int)
                                            (fun b157 =>
                                              cond b157
                                               (
                                                if m91 < m93 then
                                                  (g81 m) (((List.getD u94 m91 []).tail.tail.tail.tail).headD 0) (1 : Int) (1000000000 : Int)
                                                    (fun b159 =>
                                                      k164 b159)
                                                else
                                                  none)
                                               (
                                                k164 false))
                                        else
                                          none)
                                       (
                                        if m91 < m93 then
                                          cond ((((List.getD u94 m91 []).tail.tail.tail).headD 0) == (0 : Int))
                                           (
                                            if m91 < m93 then
                                              k164 ((((List.getD u94 m91 []).tail.tail.tail.tail).headD 0) == (0 : Int))
                                            else
                                              none)
                                           (
                                            k164 false)
                                        else
                                          none)
                                    else
                                      none)
                                else
                                  none)
                            else
                              none))
                    else
                      none))
            else
              none)
        else
          none)
    else
      none := by kernel_rfl

theorem g42l0_s {α : Type} (q : Nat) (m84 : Nat) (m85 : Nat) (m86 : Nat) (m88 : Nat) (a89 : List (List Int)) (k168 : Option α) (k169 : Option α) (m : Nat) (v87 : Int) : g42l0 (g82 q) m84 m85 m86 m88 a89 k168 k169 (m + 1) v87 =
    cond (decide (v87 < ((m85 : Nat) : Int)))
     (
      if 0 ≤ v87 ∧ v87 < (m85 : Nat) then
        (g82 q) (m84 + v87.toNat) v87 m88 a89
          (fun b165 =>
            cond (!b165)
             (
              k168)
             (
              (g42l0 (g82 q) m84 m85 m86 m88 a89 k168 k169 m) (IntKind.wrap .i64 (v87 + (1 : Int)))))
      else
        none)
     (
      k169) := by kernel_rfl
theorem g42l0_z {α : Type} (q : Nat) (m84 : Nat) (m85 : Nat) (m86 : Nat) (m88 : Nat) (a89 : List (List Int)) (k168 : Option α) (k169 : Option α) (v87 : Int) : g42l0 (g82 q) m84 m85 m86 m88 a89 k168 k169 0 v87 = none := by kernel_rfl
theorem g42_o {α : Type} (m : Nat) (m71 : Nat) (m72 : Nat) (m73 : Nat) (m74 : Nat) (u75 : List (List Int)) (k171 : Bool → Option α) : g42 m m71 m72 m73 m74 u75 k171 =
    (g81 m) ((m72 : Nat) : Int) (1 : Int) (40 : Int)
      (fun b82 =>
        cond (!b82)
         (
          k171 false)
         (
          g42l0 (g82 m) m71 m72 m73 m74 u75
            (
              k171 false)
            (
              k171 true)
            m (0 : Int))) := by kernel_rfl

theorem g75_o {α : Type} (m : Nat) (p214 : Int) (p215 : Int) (p216 : Int) (p217 : Int) (p218 : Int) (u219 : List Int) (k235 : Int → Int → Option α) : g75 m p214 p215 p216 p217 p218 u219 k235 =
    (g95 m) p214
      (fun b220 =>
        cond b220
         (
          if 0 ≤ p215 ∧ p215 < (u219.length : Nat) then
            if p215.toNat < u219.length then
              let x222 : Int := IntKind.wrap .i16 (List.getD u219 p215.toNat 0)
              (g96 m) p214
                (fun b223 =>
                  cond b223
                   (
                    if 0 ≤ p216 ∧ p216 < (u219.length : Nat) then
                      if p216.toNat < u219.length then
                        k235 x222 (IntKind.wrap .i16 (List.getD u219 p216.toNat 0))
                      else
                        none
                    else
                      none)
                   (
                    k235 x222 p216))
            else
              none
          else
            none)
         (
          (g96 m) p214
            (fun b226 =>
              cond b226
               (
                if 0 ≤ p215 ∧ p215 < (u219.length : Nat) then
                  if p215.toNat < u219.length then
                    let x228 : Int := IntKind.wrap .i16 (List.getD u219 p215.toNat 0)
                    (g96 m) p214
                      (fun b229 =>
                        cond b229
                         (
                          if 0 ≤ p216 ∧ p216 < (u219.length : Nat) then
                            if p216.toNat < u219.length then
                              k235 x228 (IntKind.wrap .i16 (List.getD u219 p216.toNat 0))
                            else
                              none
                          else
                            none)
                         (
                          k235 x228 p216))
                  else
                    none
                else
                  none)
               (
                (g96 m) p214
                  (fun b232 =>
                    cond b232
                     (
                      if 0 ≤ p216 ∧ p216 < (u219.length : Nat) then
                        if p216.toNat < u219.length then
                          k235 p215 (IntKind.wrap .i16 (List.getD u219 p216.toNat 0))
                        else
                          none
                      else
                        none)
                     (
                      k235 p215 p216)))))) := by kernel_rfl

theorem g32l0_s {α : Type} (m178 : Nat) (m179 : Nat) (m180 : Nat) (m181 : Nat) (m182 : Nat) (m183 : Nat) (m185 : Nat) (a186 : List (List Int)) (m187 : Nat) (a188 : List (List Int)) (k194 : (List Int) → Option α) (m : Nat) (v184 : Int) (a189 : List Int) : g32l0 m178 m179 m180 m181 m182 m183 m185 a186 m187 a188 k194 (m + 1) v184 a189 =
    cond (decide (v184 < ((m182 : Nat) : Int)))
     (
      if a189.length + 1 ≤ 67108864 then
        (g32l0 m178 m179 m180 m181 m182 m183 m185 a186 m187 a188 k194 m) (IntKind.wrap .i64 (v184 + (1 : Int))) (a189 ++ [(IntKind.wrap .i64 (((m179 : Nat) : Int) + v184))])
      else
        none)
     (
      k194 a189) := by kernel_rfl
theorem g32l0_z {α : Type} (m178 : Nat) (m179 : Nat) (m180 : Nat) (m181 : Nat) (m182 : Nat) (m183 : Nat) (m185 : Nat) (a186 : List (List Int)) (m187 : Nat) (a188 : List (List Int)) (k194 : (List Int) → Option α) (v184 : Int) (a189 : List Int) : g32l0 m178 m179 m180 m181 m182 m183 m185 a186 m187 a188 k194 0 v184 a189 = none := by kernel_rfl
theorem g32l2_s {α : Type} (q : Nat) (m198 : Nat) (m199 : Nat) (m200 : Nat) (m202 : Nat) (a203 : List (List Int)) (m204 : Nat) (a205 : List (List Int)) (a206 : List Int) (k240 : (List (List Int)) → Option α) (m : Nat) (v201 : Int) (a207 : List (List Int)) : g32l2 (g75 q) m198 m199 m200 m202 a203 m204 a205 a206 k240 (m + 1) v201 a207 =
    cond (decide (v201 < ((m199 : Nat) : Int)))
     (
      if 0 ≤ v201 ∧ v201 < (m199 : Nat) then
        if (m198 + v201.toNat) < m204 then
          let x209 : Int := (List.getD a205 (m198 + v201.toNat) []).headD 0
          let x212 : Int := (List.getD a205 (m198 + v201.toNat) []).tail.tail.tail.headD 0
          let x213 : Int := (List.getD a205 (m198 + v201.toNat) []).tail.tail.tail.tail.headD 0
          (g75 q) x209 ((List.getD a205 (m198 + v201.toNat) []).tail.headD 0) ((List.getD a205 (m198 + v201.toNat) []).tail.tail.headD 0) x212 x213 a206
            (fun x236 x237 =>
              if a207.length + 1 ≤ 67108864 then
                (g32l2 (g75 q) m198 m199 m200 m202 a203 m204 a205 a206 k240 m) (IntKind.wrap .i64 (v201 + (1 : Int))) (a207 ++ [[x209, x236, x237, x212, x213]])
              else
                none)
        else
          none
      else
        none)
     (
      k240 a207) := by kernel_rfl
theorem g32l2_z {α : Type} (q : Nat) (m198 : Nat) (m199 : Nat) (m200 : Nat) (m202 : Nat) (a203 : List (List Int)) (m204 : Nat) (a205 : List (List Int)) (a206 : List Int) (k240 : (List (List Int)) → Option α) (v201 : Int) (a207 : List (List Int)) : g32l2 (g75 q) m198 m199 m200 m202 a203 m204 a205 a206 k240 0 v201 a207 = none := by kernel_rfl
theorem g32_o {α : Type} (m : Nat) (m61 : Nat) (m62 : Nat) (m63 : Nat) (m64 : Nat) (m65 : Nat) (m66 : Nat) (m67 : Nat) (u68 : List (List Int)) (m69 : Nat) (u70 : List (List Int)) (k243 : Int → (List (List Int)) → Option α) : g32 m m61 m62 m63 m64 m65 m66 m67 u68 m69 u70 k243 =
    (g42 m) m61 m62 m63 m67 u68
      (fun b172 =>
        cond (!b172)
         (
          k243 (1 : Int) [])
         (
          (g42 m) m64 m65 m66 m69 u70
            (fun b174 =>
              cond (!b174)
               (
                k243 (1 : Int) [])
               (
                cond (decide ((IntKind.wrap .i64 (((m62 : Nat) : Int) + ((m65 : Nat) : Int))) > (40 : Int)))
                 (
                  k243 (3 : Int) [])
                 (
                  g32l0 m61 m62 m63 m64 m65 m66 m67 u68 m69 u70
                    (fun l196 =>
                      if m61 + m62 ≤ m67 then
                        let l197 : List (List Int) := List.take m62 (List.drop m61 u68)
                        if 0 + l197.length ≤ 67108864 then
                          g32l2 (g75 m) m64 m65 m66 m67 u68 m69 u70 l196
                            (fun l242 =>
                              k243 (0 : Int) l242)
                            m (0 : Int) l197
                        else
                          none
                      else
                        none)
                    m (0 : Int) []))))) := by kernel_rfl

theorem g43_o {α : Type} (m : Nat) (p278 : Int) (k289 : Bool → Bool → Bool → Option α) : g43 m p278 k289 =
    cond (p278 == (1 : Int))
     (
      k289 false false true)
     (
      cond (p278 == (2 : Int))
       (
        k289 true true false)
       (
        cond (p278 == (3 : Int))
         (
          k289 true true false)
         (
          cond (p278 == (4 : Int))
           (
            k289 true true false)
           (
            cond (p278 == (5 : Int))
             (
              k289 true true false)
             (
              cond (p278 == (8 : Int))
               (
                k289 true true false)
               (
                cond (p278 == (9 : Int))
                 (
                  k289 true true false)
                 (
                  cond (p278 == (6 : Int))
                   (
                    k289 true false false)
                   (
                    cond (p278 == (7 : Int))
                     (
                      k289 true false false)
                     (
                      cond (p278 == (10 : Int))
                       (
                        k289 true false false)
                       (
                        k289 false false false)))))))))) := by kernel_rfl

theorem g64_o {α : Type} (m : Nat) (p299 : Int) (p300 : Int) (p301 : Int) (k304 : Bool → Option α) : g64 m p299 p300 p301 k304 =
    cond (decide (p299 ≥ p300))
     (
      k304 (decide (p299 ≤ p301)))
     (
      k304 false) := by kernel_rfl

theorem g44_o {α : Type} (m : Nat) (p295 : Int) (p296 : Int) (p297 : Int) (k309 : Bool → Option α) : g44 m p295 p296 p297 k309 =
    cond (p295 == (1 : Int))
     (
      (g64 m) p296 (-1000000000 : Int) (1000000000 : Int)
        (fun b305 =>
          cond b305
           (
            (g64 m) p297 (1 : Int) (1000000000 : Int)
              (fun b306 =>
                k309 b306))
           (
            k309 false)))
     (
      cond (p296 == (0 : Int))
       (
        k309 (p297 == (0 : Int)))
       (
        k309 false)) := by kernel_rfl

theorem g45_o {α : Type} (m : Nat) (p312 : Int) (p313 : Int) (q314 : Bool) (k320 : Bool → Option α) : g45 m p312 p313 q314 k320 =
    cond (!q314)
     (
      k320 (p312 == (0 : Int)))
     (
      cond (decide (p312 ≥ (0 : Int)))
       (
        k320 (decide ((IntKind.wrap .i64 p312) < p313)))
       (
        k320 false)) := by kernel_rfl

theorem g17l0_s {α : Type} (q : Nat) (m265 : Nat) (m266 : Nat) (m267 : Nat) (v268 : Int) (m270 : Nat) (a271 : List (List Int)) (k326 : Option α) (k327 : Option α) (m : Nat) (v269 : Int) : g17l0 (g43 q) (g44 q) (g45 q) m265 m266 m267 v268 m270 a271 k326 k327 (m + 1) v269 =
    cond (decide (v269 < v268))
     (
      if 0 ≤ v269 ∧ v269 < (m266 : Nat) then
        if (m265 + v269.toNat) < m270 then
          let x273 : Int := (List.getD a271 (m265 + v269.toNat) []).headD 0
          (g43 q) x273
            (fun b290 b291 b292 =>
              cond (decide (x273 < (1 : Int)))
               (
                k326)
               (
                cond (decide (x273 > (12 : Int)))
                 (
                  k326)
                 (
                  (g44 q) x273 ((List.getD a271 (m265 + v269.toNat) []).tail.tail.tail.headD 0) ((List.getD a271 (m265 + v269.toNat) []).tail.tail.tail.tail.headD 0)
                    (fun b310 =>
                      cond (!b310)
                       (
                        k326)
                       (
                        (g45 q) ((List.getD a271 (m265 + v269.toNat) []).tail.headD 0) v269 b290
                          (fun b321 =>
                            cond (!b321)
                             (
                              k326)
                             (
                              (g45 q) ((List.getD a271 (m265 + v269.toNat) []).tail.tail.headD 0) v269 b291
                                (fun b323 =>
                                  cond (!b323)
                                   (
                                    k326)
                                   (
                                    (g17l0 (g43 q) (g44 q) (g45 q) m265 m266 m267 v268 m270 a271 k326 k327 m) (IntKind.wrap .i64 (v269 + (1 : Int))))))))))))
        else
          none
      else
        none)
     (
      k327) := by kernel_rfl
theorem g17l0_z {α : Type} (q : Nat) (m265 : Nat) (m266 : Nat) (m267 : Nat) (v268 : Int) (m270 : Nat) (a271 : List (List Int)) (k326 : Option α) (k327 : Option α) (v269 : Int) : g17l0 (g43 q) (g44 q) (g45 q) m265 m266 m267 v268 m270 a271 k326 k327 0 v269 = none := by kernel_rfl
theorem g17_o {α : Type} (m : Nat) (m258 : Nat) (m259 : Nat) (m260 : Nat) (m261 : Nat) (u262 : List (List Int)) (k329 : Bool → Option α) : g17 m m258 m259 m260 m261 u262 k329 =
    cond (decide (((m259 : Nat) : Int) < (1 : Int)))
     (
      k329 false)
     (
      cond (decide (((m259 : Nat) : Int) > (40 : Int)))
       (
        k329 false)
       (
        g17l0 (g43 m) (g44 m) (g45 m) m258 m259 m260 ((m259 : Nat) : Int) m261 u262
          (
            k329 false)
          (
            k329 true)
          m (0 : Int))) := by kernel_rfl

theorem g76_o {α : Type} (m : Nat) (m336 : Nat) (m337 : Nat) (m338 : Nat) (m339 : Nat) (u340 : List (List Int)) (k342 : (List (List Int)) → Option α) : g76 m m336 m337 m338 m339 u340 k342 =
    if m336 + m337 ≤ m339 then
      let l341 : List (List Int) := List.take m337 (List.drop m336 u340)
      if 0 + l341.length ≤ 67108864 then
        k342 l341
      else
        none
    else
      none := by kernel_rfl

theorem g78_o {α : Type} (m : Nat) (p376 : Int) (m377 : Nat) (m378 : Nat) (m379 : Nat) (m380 : Nat) (u381 : List (List Int)) (k384 : Int → Option α) : g78 m p376 m377 m378 m379 m380 u381 k384 =
    k384 (IntKind.wrap .i16 (p376 + (IntKind.wrap .i16 ((m378 : Nat) : Int)))) := by kernel_rfl

theorem g77_o {α : Type} (m : Nat) (p363 : Int) (p364 : Int) (p365 : Int) (p366 : Int) (p367 : Int) (m368 : Nat) (m369 : Nat) (m370 : Nat) (m371 : Nat) (u372 : List (List Int)) (k388 : Int → Int → Option α) : g77 m p363 p364 p365 p366 p367 m368 m369 m370 m371 u372 k388 =
    (g43 m) p363
      (fun b373 b374 b375 =>
        cond b373
         (
          (g78 m) p364 m368 m369 m370 m371 u372
            (fun x385 =>
              cond b374
               (
                (g78 m) p365 m368 m369 m370 m371 u372
                  (fun x386 =>
                    k388 x385 x386))
               (
                k388 x385 p365)))
         (
          cond b374
           (
            (g78 m) p365 m368 m369 m370 m371 u372
              (fun x387 =>
                k388 p364 x387))
           (
            k388 p364 p365))) := by kernel_rfl

theorem g33l0_s {α : Type} (q : Nat) (m344 : Nat) (m345 : Nat) (m346 : Nat) (v347 : Int) (m349 : Nat) (a350 : List (List Int)) (m351 : Nat) (a352 : List (List Int)) (m353 : Nat) (m354 : Nat) (m355 : Nat) (k393 : (List (List Int)) → Option α) (m : Nat) (v348 : Int) (a356 : List (List Int)) : g33l0 (g77 q) m344 m345 m346 v347 m349 a350 m351 a352 m353 m354 m355 k393 (m + 1) v348 a356 =
    cond (decide (v348 < v347))
     (
      if 0 ≤ v348 ∧ v348 < (m345 : Nat) then
        if (m344 + v348.toNat) < m351 then
          let x358 : Int := (List.getD a352 (m344 + v348.toNat) []).headD 0
          let x361 : Int := (List.getD a352 (m344 + v348.toNat) []).tail.tail.tail.headD 0
          let x362 : Int := (List.getD a352 (m344 + v348.toNat) []).tail.tail.tail.tail.headD 0
          (g77 q) x358 ((List.getD a352 (m344 + v348.toNat) []).tail.headD 0) ((List.getD a352 (m344 + v348.toNat) []).tail.tail.headD 0) x361 x362 m353 m354 m355 m349 a350
            (fun x389 x390 =>
              if a356.length + 1 ≤ 67108864 then
                (g33l0 (g77 q) m344 m345 m346 v347 m349 a350 m351 a352 m353 m354 m355 k393 m) (IntKind.wrap .i64 (v348 + (1 : Int))) (a356 ++ [[x358, x389, x390, x361, x362]])
              else
                none)
        else
          none
      else
        none)
     (
      k393 a356) := by kernel_rfl
theorem g33l0_z {α : Type} (q : Nat) (m344 : Nat) (m345 : Nat) (m346 : Nat) (v347 : Int) (m349 : Nat) (a350 : List (List Int)) (m351 : Nat) (a352 : List (List Int)) (m353 : Nat) (m354 : Nat) (m355 : Nat) (k393 : (List (List Int)) → Option α) (v348 : Int) (a356 : List (List Int)) : g33l0 (g77 q) m344 m345 m346 v347 m349 a350 m351 a352 m353 m354 m355 k393 0 v348 a356 = none := by kernel_rfl
theorem g33_o {α : Type} (m : Nat) (m248 : Nat) (m249 : Nat) (m250 : Nat) (m251 : Nat) (m252 : Nat) (m253 : Nat) (m254 : Nat) (u255 : List (List Int)) (m256 : Nat) (u257 : List (List Int)) (k396 : Int → Option α) (k397 : (List (List Int)) → Option α) : g33 m m248 m249 m250 m251 m252 m253 m254 u255 m256 u257 k396 k397 =
    (g17 m) m248 m249 m250 m254 u255
      (fun b330 =>
        cond (!b330)
         (
          k396 (1 : Int))
         (
          (g17 m) m251 m252 m253 m256 u257
            (fun b332 =>
              cond (!b332)
               (
                k396 (1 : Int))
               (
                cond (decide ((IntKind.wrap .i64 (((m249 : Nat) : Int) + ((m252 : Nat) : Int))) > (40 : Int)))
                 (
                  k396 (3 : Int))
                 (
                  (g76 m) m248 m249 m250 m254 u255
                    (fun l343 =>
                      g33l0 (g77 m) m251 m252 m253 ((m252 : Nat) : Int) m254 u255 m256 u257 m248 m249 m250
                        (fun l395 =>
                          k397 l395)
                        m (0 : Int) l343)))))) := by kernel_rfl

theorem g15l0_s {α : Type} (v401 : Int) (a402 : List (List Int)) (k404 : Option α) (m : Nat)  : g15l0 v401 a402 k404 (m + 1)  =
    cond (decide (v401 < (0 : Int)))
     (
      none)
     (
      k404) := by kernel_rfl
theorem g15l0_z {α : Type} (v401 : Int) (a402 : List (List Int)) (k404 : Option α)  : g15l0 v401 a402 k404 0  = none := by kernel_rfl
theorem g15_o {α : Type} (m : Nat) (u399 : List (List Int)) (k406 : Bool → Option α) : g15 m u399 k406 =
    cond ((0 : Int) != ((u399.length : Nat) : Int))
     (
      k406 false)
     (
      g15l0 (0 : Int) u399
        (
          k406 true)
        m ) := by kernel_rfl

theorem g41_o {α : Type} (m : Nat) (p444 : Int) (p445 : Int) (p446 : Int) (p447 : Int) (p448 : Int) (p449 : Int) (p450 : Int) (p451 : Int) (p452 : Int) (p453 : Int) (k459 : Bool → Option α) : g41 m p444 p445 p446 p447 p448 p449 p450 p451 p452 p453 k459 =
    cond (p444 != p449)
     (
      k459 false)
     (
      cond (p445 != p450)
       (
        k459 false)
       (
        cond (p446 != p451)
         (
          k459 false)
         (
          cond (p447 != p452)
           (
            k459 false)
           (
            cond (p448 != p453)
             (
              k459 false)
             (
              k459 true))))) := by kernel_rfl

theorem g15v1l0_s {α : Type} (q : Nat) (m422 : Nat) (m423 : Nat) (m424 : Nat) (m425 : Nat) (m426 : Nat) (m427 : Nat) (m429 : Nat) (a430 : List (List Int)) (m431 : Nat) (a432 : List (List Int)) (k463 : Option α) (k464 : Option α) (m : Nat) (v428 : Int) : g15v1l0 (g41 q) m422 m423 m424 m425 m426 m427 m429 a430 m431 a432 k463 k464 (m + 1) v428 =
    cond (decide (v428 < ((m423 : Nat) : Int)))
     (
      if 0 ≤ v428 ∧ v428 < (m423 : Nat) then
        if (m422 + v428.toNat) < m429 then
          if 0 ≤ v428 ∧ v428 < (m426 : Nat) then
            if (m425 + v428.toNat) < m431 then
              (g41 q) ((List.getD a430 (m422 + v428.toNat) []).headD 0) ((List.getD a430 (m422 + v428.toNat) []).tail.headD 0) ((List.getD a430 (m422 + v428.toNat) []).tail.tail.headD 0) ((List.getD a430 (m422 + v428.toNat) []).tail.tail.tail.headD 0) ((List.getD a430 (m422 + v428.toNat) []).tail.tail.tail.tail.headD 0) ((List.getD a432 (m425 + v428.toNat) []).headD 0) ((List.getD a432 (m425 + v428.toNat) []).tail.headD 0) ((List.getD a432 (m425 + v428.toNat) []).tail.tail.headD 0) ((List.getD a432 (m425 + v428.toNat) []).tail.tail.tail.headD 0) ((List.getD a432 (m425 + v428.toNat) []).tail.tail.tail.tail.headD 0)
                (fun b460 =>
                  cond (!b460)
                   (
                    k463)
                   (
                    (g15v1l0 (g41 q) m422 m423 m424 m425 m426 m427 m429 a430 m431 a432 k463 k464 m) (IntKind.wrap .i64 (v428 + (1 : Int)))))
            else
              none
          else
            none
        else
          none
      else
        none)
     (
      k464) := by kernel_rfl
theorem g15v1l0_z {α : Type} (q : Nat) (m422 : Nat) (m423 : Nat) (m424 : Nat) (m425 : Nat) (m426 : Nat) (m427 : Nat) (m429 : Nat) (a430 : List (List Int)) (m431 : Nat) (a432 : List (List Int)) (k463 : Option α) (k464 : Option α) (v428 : Int) : g15v1l0 (g41 q) m422 m423 m424 m425 m426 m427 m429 a430 m431 a432 k463 k464 0 v428 = none := by kernel_rfl
theorem g15v1_o {α : Type} (m : Nat) (m411 : Nat) (m412 : Nat) (m413 : Nat) (m414 : Nat) (m415 : Nat) (m416 : Nat) (m417 : Nat) (u418 : List (List Int)) (m419 : Nat) (u420 : List (List Int)) (k466 : Bool → Option α) : g15v1 m m411 m412 m413 m414 m415 m416 m417 u418 m419 u420 k466 =
    cond (((m412 : Nat) : Int) != ((m415 : Nat) : Int))
     (
      k466 false)
     (
      g15v1l0 (g41 m) m411 m412 m413 m414 m415 m416 m417 u418 m419 u420
        (
          k466 false)
        (
          k466 true)
        m (0 : Int)) := by kernel_rfl

theorem g29l0_s {α : Type} (m478 : Nat) (m479 : Nat) (m480 : Nat) (m483 : Nat) (k500 : Int → (List (List Int)) → Option α) (m : Nat) (v481 : Int) (v482 : Int) (a484 : List (List Int)) : g29l0 m478 m479 m480 m483 k500 (m + 1) v481 v482 a484 =
    cond (decide (v482 < ((m479 : Nat) : Int)))
     (
      if 0 ≤ v482 ∧ v482 < (m479 : Nat) then
        if (m478 + v482.toNat) < m483 then
          let l487 : List (List Int) := List.set a484 (m478 + v482.toNat) [(IntKind.wrap .i8 v481), (List.getD a484 (m478 + v482.toNat) []).tail.headD 0, (List.getD a484 (m478 + v482.toNat) []).tail.tail.headD 0, (List.getD a484 (m478 + v482.toNat) []).tail.tail.tail.headD 0, (List.getD a484 (m478 + v482.toNat) []).tail.tail.tail.tail.headD 0]
          let x488 : Int := IntKind.wrap .i64 (v481 + (1 : Int))
          if 0 ≤ v482 ∧ v482 < (m479 : Nat) then
            if (m478 + v482.toNat) < m483 then
              let l490 : List (List Int) := List.set l487 (m478 + v482.toNat) [(List.getD l487 (m478 + v482.toNat) []).headD 0, (IntKind.wrap .i16 x488), (List.getD l487 (m478 + v482.toNat) []).tail.tail.headD 0, (List.getD l487 (m478 + v482.toNat) []).tail.tail.tail.headD 0, (List.getD l487 (m478 + v482.toNat) []).tail.tail.tail.tail.headD 0]
              let x491 : Int := IntKind.wrap .i64 (x488 + (1 : Int))
              if 0 ≤ v482 ∧ v482 < (m479 : Nat) then
                if (m478 + v482.toNat) < m483 then
                  let l493 : List (List Int) := List.set l490 (m478 + v482.toNat) [(List.getD l490 (m478 + v482.toNat) []).headD 0, (List.getD l490 (m478 + v482.toNat) []).tail.headD 0, (IntKind.wrap .i16 x491), (List.getD l490 (m478 + v482.toNat) []).tail.tail.tail.headD 0, (List.getD l490 (m478 + v482.toNat) []).tail.tail.tail.tail.headD 0]
                  let x494 : Int := IntKind.wrap .i64 (x491 + (1 : Int))
                  if 0 ≤ v482 ∧ v482 < (m479 : Nat) then
                    if (m478 + v482.toNat) < m483 then
                      let l495 : List (List Int) := List.set l493 (m478 + v482.toNat) [(List.getD l493 (m478 + v482.toNat) []).headD 0, (List.getD l493 (m478 + v482.toNat) []).tail.headD 0, (List.getD l493 (m478 + v482.toNat) []).tail.tail.headD 0, x494, (List.getD l493 (m478 + v482.toNat) []).tail.tail.tail.tail.headD 0]
                      let x496 : Int := IntKind.wrap .i64 (x494 + (1 : Int))
                      if 0 ≤ v482 ∧ v482 < (m479 : Nat) then
                        if (m478 + v482.toNat) < m483 then
                          (g29l0 m478 m479 m480 m483 k500 m) (IntKind.wrap .i64 (x496 + (1 : Int))) (IntKind.wrap .i64 (v482 + (1 : Int))) (List.set l495 (m478 + v482.toNat) [(List.getD l495 (m478 + v482.toNat) []).headD 0, (List.getD l495 (m478 + v482.toNat) []).tail.headD 0, (List.getD l495 (m478 + v482.toNat) []).tail.tail.headD 0, (List.getD l495 (m478 + v482.toNat) []).tail.tail.tail.headD 0, x496])
                        else
                          none
                      else
                        none
                    else
                      none
                  else
                    none
                else
                  none
              else
                none
            else
              none
          else
            none
        else
          none
      else
        none)
     (
      k500 v481 a484) := by kernel_rfl
theorem g29l0_z {α : Type} (m478 : Nat) (m479 : Nat) (m480 : Nat) (m483 : Nat) (k500 : Int → (List (List Int)) → Option α) (v481 : Int) (v482 : Int) (a484 : List (List Int)) : g29l0 m478 m479 m480 m483 k500 0 v481 v482 a484 = none := by kernel_rfl
theorem g29_o {α : Type} (m : Nat) (m472 : Nat) (m473 : Nat) (m474 : Nat) (p475 : Int) (m476 : Nat) (u477 : List (List Int)) (k504 : Int → (List (List Int)) → Option α) : g29 m m472 m473 m474 p475 m476 u477 k504 =
    g29l0 m472 m473 m474 m476
      (fun x502 l503 =>
        k504 x502 l503)
      m p475 (0 : Int) u477 := by kernel_rfl

theorem g29v1l0_s {α : Type} (v514 : Int) (v515 : Int) (k518 : Option α) (m : Nat)  : g29v1l0 v514 v515 k518 (m + 1)  =
    cond (decide (v515 < (0 : Int)))
     (
      none)
     (
      k518) := by kernel_rfl
theorem g29v1l0_z {α : Type} (v514 : Int) (v515 : Int) (k518 : Option α)  : g29v1l0 v514 v515 k518 0  = none := by kernel_rfl
theorem g29v1_o {α : Type} (m : Nat) (p513 : Int) (k520 : Option α) : g29v1 m p513 k520 =
    g29v1l0 p513 (0 : Int)
      (
        k520)
      m  := by kernel_rfl

theorem g34l0_s {α : Type} (v522 : Int) (v523 : Int) (k525 : Option α) (m : Nat)  : g34l0 v522 v523 k525 (m + 1)  =
    cond (decide (v523 < (0 : Int)))
     (
      none)
     (
      k525) := by kernel_rfl
theorem g34l0_z {α : Type} (v522 : Int) (v523 : Int) (k525 : Option α)  : g34l0 v522 v523 k525 0  = none := by kernel_rfl
theorem g34_o {α : Type} (m : Nat) (p521 : Int) (k527 : Option α) : g34 m p521 k527 =
    g34l0 p521 (0 : Int)
      (
        k527)
      m  := by kernel_rfl

theorem g15v2l0_s {α : Type} (q : Nat) (a539 : List (List Int)) (a540 : List (List Int)) (k555 : Option α) (k556 : Option α) (m : Nat) (v538 : Int) : g15v2l0 (g41 q) a539 a540 k555 k556 (m + 1) v538 =
    cond (decide (v538 < ((a539.length : Nat) : Int)))
     (
      if 0 ≤ v538 ∧ v538 < (a539.length : Nat) then
        if v538.toNat < a539.length then
          if 0 ≤ v538 ∧ v538 < (a540.length : Nat) then
            if v538.toNat < a540.length then
              (g41 q) ((List.getD a539 v538.toNat []).headD 0) ((List.getD a539 v538.toNat []).tail.headD 0) ((List.getD a539 v538.toNat []).tail.tail.headD 0) ((List.getD a539 v538.toNat []).tail.tail.tail.headD 0) ((List.getD a539 v538.toNat []).tail.tail.tail.tail.headD 0) ((List.getD a540 v538.toNat []).headD 0) ((List.getD a540 v538.toNat []).tail.headD 0) ((List.getD a540 v538.toNat []).tail.tail.headD 0) ((List.getD a540 v538.toNat []).tail.tail.tail.headD 0) ((List.getD a540 v538.toNat []).tail.tail.tail.tail.headD 0)
                (fun b552 =>
                  cond (!b552)
                   (
                    k555)
                   (
                    (g15v2l0 (g41 q) a539 a540 k555 k556 m) (IntKind.wrap .i64 (v538 + (1 : Int)))))
            else
              none
          else
            none
        else
          none
      else
        none)
     (
      k556) := by kernel_rfl
theorem g15v2l0_z {α : Type} (q : Nat) (a539 : List (List Int)) (a540 : List (List Int)) (k555 : Option α) (k556 : Option α) (v538 : Int) : g15v2l0 (g41 q) a539 a540 k555 k556 0 v538 = none := by kernel_rfl
theorem g15v2_o {α : Type} (m : Nat) (u535 : List (List Int)) (u536 : List (List Int)) (k558 : Bool → Option α) : g15v2 m u535 u536 k558 =
    cond (((u535.length : Nat) : Int) != ((u536.length : Nat) : Int))
     (
      k558 false)
     (
      g15v2l0 (g41 m) u535 u536
        (
          k558 false)
        (
          k558 true)
        m (0 : Int)) := by kernel_rfl

theorem g29v2l0_s {α : Type}  (k600 : Int → (List (List Int)) → Option α) (m : Nat) (v582 : Int) (v583 : Int) (a584 : List (List Int)) : g29v2l0 k600 (m + 1) v582 v583 a584 =
    cond (decide (v583 < ((a584.length : Nat) : Int)))
     (
      if 0 ≤ v583 ∧ v583 < (a584.length : Nat) then
        if v583.toNat < a584.length then
          let l587 : List (List Int) := List.set a584 (v583.toNat) [(IntKind.wrap .i8 v582), (List.getD a584 v583.toNat []).tail.headD 0, (List.getD a584 v583.toNat []).tail.tail.headD 0, (List.getD a584 v583.toNat []).tail.tail.tail.headD 0, (List.getD a584 v583.toNat []).tail.tail.tail.tail.headD 0]
          let x588 : Int := IntKind.wrap .i64 (v582 + (1 : Int))
          if 0 ≤ v583 ∧ v583 < (l587.length : Nat) then
            if v583.toNat < l587.length then
              let l590 : List (List Int) := List.set l587 (v583.toNat) [(List.getD l587 v583.toNat []).headD 0, (IntKind.wrap .i16 x588), (List.getD l587 v583.toNat []).tail.tail.headD 0, (List.getD l587 v583.toNat []).tail.tail.tail.headD 0, (List.getD l587 v583.toNat []).tail.tail.tail.tail.headD 0]
              let x591 : Int := IntKind.wrap .i64 (x588 + (1 : Int))
              if 0 ≤ v583 ∧ v583 < (l590.length : Nat) then
                if v583.toNat < l590.length then
                  let l593 : List (List Int) := List.set l590 (v583.toNat) [(List.getD l590 v583.toNat []).headD 0, (List.getD l590 v583.toNat []).tail.headD 0, (IntKind.wrap .i16 x591), (List.getD l590 v583.toNat []).tail.tail.tail.headD 0, (List.getD l590 v583.toNat []).tail.tail.tail.tail.headD 0]
                  let x594 : Int := IntKind.wrap .i64 (x591 + (1 : Int))
                  if 0 ≤ v583 ∧ v583 < (l593.length : Nat) then
                    if v583.toNat < l593.length then
                      let l595 : List (List Int) := List.set l593 (v583.toNat) [(List.getD l593 v583.toNat []).headD 0, (List.getD l593 v583.toNat []).tail.headD 0, (List.getD l593 v583.toNat []).tail.tail.headD 0, x594, (List.getD l593 v583.toNat []).tail.tail.tail.tail.headD 0]
                      let x596 : Int := IntKind.wrap .i64 (x594 + (1 : Int))
                      if 0 ≤ v583 ∧ v583 < (l595.length : Nat) then
                        if v583.toNat < l595.length then
                          (g29v2l0 k600 m) (IntKind.wrap .i64 (x596 + (1 : Int))) (IntKind.wrap .i64 (v583 + (1 : Int))) (List.set l595 (v583.toNat) [(List.getD l595 v583.toNat []).headD 0, (List.getD l595 v583.toNat []).tail.headD 0, (List.getD l595 v583.toNat []).tail.tail.headD 0, (List.getD l595 v583.toNat []).tail.tail.tail.headD 0, x596])
                        else
                          none
                      else
                        none
                    else
                      none
                  else
                    none
                else
                  none
              else
                none
            else
              none
          else
            none
        else
          none
      else
        none)
     (
      k600 v582 a584) := by kernel_rfl
theorem g29v2l0_z {α : Type}  (k600 : Int → (List (List Int)) → Option α) (v582 : Int) (v583 : Int) (a584 : List (List Int)) : g29v2l0 k600 0 v582 v583 a584 = none := by kernel_rfl
theorem g29v2_o {α : Type} (m : Nat) (p580 : Int) (u581 : List (List Int)) (k604 : Int → (List (List Int)) → Option α) : g29v2 m p580 u581 k604 =
    g29v2l0
      (fun x602 l603 =>
        k604 x602 l603)
      m p580 (0 : Int) u581 := by kernel_rfl

theorem g34v1l0_s {α : Type} (a611 : List (List Int)) (k632 : Option α) (k633 : Int → Option α) (m : Nat) (v609 : Int) (v610 : Int) : g34v1l0 a611 k632 k633 (m + 1) v609 v610 =
    cond (decide (v610 < ((a611.length : Nat) : Int)))
     (
      if 0 ≤ v610 ∧ v610 < (a611.length : Nat) then
        if v610.toNat < a611.length then
          cond (((List.getD a611 v610.toNat []).headD 0) != (IntKind.wrap .i8 v609))
           (
            k632)
           (
            let x616 : Int := IntKind.wrap .i64 (v609 + (1 : Int))
            if 0 ≤ v610 ∧ v610 < (a611.length : Nat) then
              if v610.toNat < a611.length then
                cond ((((List.getD a611 v610.toNat []).tail).headD 0) != (IntKind.wrap .i16 x616))
                 (
                  k632)
                 (
                  let x620 : Int := IntKind.wrap .i64 (x616 + (1 : Int))
                  if 0 ≤ v610 ∧ v610 < (a611.length : Nat) then
                    if v610.toNat < a611.length then
                      cond ((((List.getD a611 v610.toNat []).tail.tail).headD 0) != (IntKind.wrap .i16 x620))
                       (
                        k632)
                       (
                        let x624 : Int := IntKind.wrap .i64 (x620 + (1 : Int))
                        if 0 ≤ v610 ∧ v610 < (a611.length : Nat) then
                          if v610.toNat < a611.length then
                            cond ((((List.getD a611 v610.toNat []).tail.tail.tail).headD 0) != x624)
                             (
                              k632)
                             (
                              let x627 : Int := IntKind.wrap .i64 (x624 + (1 : Int))
                              if 0 ≤ v610 ∧ v610 < (a611.length : Nat) then
                                if v610.toNat < a611.length then
                                  cond ((((List.getD a611 v610.toNat []).tail.tail.tail.tail).headD 0) != x627)
                                   (
                                    k632)
                                   (
                                    (g34v1l0 a611 k632 k633 m) (IntKind.wrap .i64 (x627 + (1 : Int))) (IntKind.wrap .i64 (v610 + (1 : Int))))
                                else
                                  none
                              else
                                none)
                          else
                            none
                        else
                          none)
                    else
                      none
                  else
                    none)
              else
                none
            else
              none)
        else
          none
      else
        none)
     (
      k633 v609) := by kernel_rfl
theorem g34v1l0_z {α : Type} (a611 : List (List Int)) (k632 : Option α) (k633 : Int → Option α) (v609 : Int) (v610 : Int) : g34v1l0 a611 k632 k633 0 v609 v610 = none := by kernel_rfl
theorem g34v1_o {α : Type} (m : Nat) (p607 : Int) (u608 : List (List Int)) (k636 : Int → Option α) : g34v1 m p607 u608 k636 =
    g34v1l0 u608
      (
        k636 (-1 : Int))
      (fun x635 =>
        k636 x635)
      m p607 (0 : Int) := by kernel_rfl

theorem g8_o {α : Type} (m : Nat) (m1 : Nat) (m2 : Nat) (m3 : Nat) (m4 : Nat) (m5 : Nat) (m6 : Nat) (m7 : Nat) (u8 : List (List Int)) (m9 : Nat) (u10 : List (List Int)) (k656 : Bool → Option α) : g8 m m1 m2 m3 m4 m5 m6 m7 u8 m9 u10 k656 =
    (g11 m) m1 m2 m3 (1048576 : Int) m7 u8
      (fun x20 =>
        cond (decide (x20 < (0 : Int)))
         (
          k656 true)
         (
          (g11 m) m4 m5 m6 x20 m9 u10
            (fun x22 =>
              cond (decide (x22 < (0 : Int)))
               (
                k656 true)
               (
                (g13 m) m1 m2 m3 m7 u8
                  (fun l59 =>
                    (g13 m) m4 m5 m6 m9 u10
                      (fun l60 =>
                        (g32 m) 0 m2 m2 0 m5 m5 m2 l59 m5 l60
                          (fun x244 l245 =>
                            (g13 m) m1 m2 m3 m7 u8
                              (fun l246 =>
                                (g13 m) m4 m5 m6 m9 u10
                                  (fun l247 =>
                                    (g33 m) 0 m2 m2 0 m5 m5 m2 l246 m5 l247
                                      (fun x398 =>
                                        (g15 m) l245
                                          (fun b407 =>
                                            cond (!b407)
                                             (
                                              k656 false)
                                             (
                                              cond (x398 != x244)
                                               (
                                                k656 false)
                                               (
                                                (g13 m) m1 m2 m3 m7 u8
                                                  (fun l410 =>
                                                    (g15v1 m) 0 m2 m2 0 m2 m2 m2 l246 m2 l410
                                                      (fun b467 =>
                                                        cond (!b467)
                                                         (
                                                          k656 false)
                                                         (
                                                          (g13 m) m4 m5 m6 m9 u10
                                                            (fun l469 =>
                                                              (g15v1 m) 0 m5 m5 0 m5 m5 m5 l247 m5 l469
                                                                (fun b470 =>
                                                                  cond (!b470)
                                                                   (
                                                                    k656 false)
                                                                   (
                                                                    (g29 m) 0 m2 m2 (1 : Int) m2 l246
                                                                      (fun x505 l506 =>
                                                                        (g29 m) 0 m5 m5 x505 m5 l247
                                                                          (fun x507 l508 =>
                                                                            cond (decide (x507 < (0 : Int)))
                                                                             (
                                                                              k656 false)
                                                                             (
                                                                              (g15 m) l245
                                                                                (fun b510 =>
                                                                                  cond (!b510)
                                                                                   (
                                                                                    k656 false)
                                                                                   (
                                                                                    cond (x398 != x244)
                                                                                     (
                                                                                      k656 false)
                                                                                     (
                                                                                      (g29v1 m) (1 : Int)
                                                                                        (
                                                                                          (g34 m) (1 : Int)
                                                                                            (
                                                                                              (g13 m) m1 m2 m3 m7 u8
                                                                                                (fun l528 =>
                                                                                                  (g13 m) m4 m5 m6 m9 u10
                                                                                                    (fun l529 =>
                                                                                                      (g33 m) 0 m2 m2 0 m5 m5 m2 l528 m5 l529
                                                                                                        (fun x530 =>
                                                                                                          (g15 m) l245
                                                                                                            (fun b531 =>
                                                                                                              cond (!b531)
                                                                                                               (
                                                                                                                k656 false)
                                                                                                               (
                                                                                                                cond (x530 != x244)
                                                                                                                 (
                                                                                                                  k656 false)
                                                                                                                 (
                                                                                                                  (g34 m) (1 : Int)
                                                                                                                    (
                                                                                                                      k656 true)))))
                                                                                                        (fun l534 =>
                                                                                                          (g15v2 m) l534 l245
                                                                                                            (fun b559 =>
                                                                                                              cond (!b559)
                                                                                                               (
                                                                                                                k656 false)
                                                                                                               (
                                                                                                                cond ((0 : Int) != x244)
                                                                                                                 (
                                                                                                                  k656 false)
                                                                                                                 (
                                                                                                                  (g34 m) (1 : Int)
                                                                                                                    (
                                                                                                                      k656 true)))))))))))))))))))))))))
                                      (fun l562 =>
                                        (g15v2 m) l562 l245
                                          (fun b563 =>
                                            cond (!b563)
                                             (
                                              k656 false)
                                             (
                                              cond ((0 : Int) != x244)
                                               (
                                                k656 false)
                                               (
                                                (g13 m) m1 m2 m3 m7 u8
                                                  (fun l566 =>
                                                    (g15v1 m) 0 m2 m2 0 m2 m2 m2 l246 m2 l566
                                                      (fun b567 =>
                                                        cond (!b567)
                                                         (
                                                          k656 false)
                                                         (
                                                          (g13 m) m4 m5 m6 m9 u10
                                                            (fun l569 =>
                                                              (g15v1 m) 0 m5 m5 0 m5 m5 m5 l247 m5 l569
                                                                (fun b570 =>
                                                                  cond (!b570)
                                                                   (
                                                                    k656 false)
                                                                   (
                                                                    (g29 m) 0 m2 m2 (1 : Int) m2 l246
                                                                      (fun x572 l573 =>
                                                                        (g29 m) 0 m5 m5 x572 m5 l247
                                                                          (fun x574 l575 =>
                                                                            cond (decide (x574 < (0 : Int)))
                                                                             (
                                                                              k656 false)
                                                                             (
                                                                              (g15v2 m) l562 l245
                                                                                (fun b577 =>
                                                                                  cond (!b577)
                                                                                   (
                                                                                    k656 false)
                                                                                   (
                                                                                    cond ((0 : Int) != x244)
                                                                                     (
                                                                                      k656 false)
                                                                                     (
                                                                                      (g29v2 m) (1 : Int) l562
                                                                                        (fun x605 l606 =>
                                                                                          (g34v1 m) (1 : Int) l606
                                                                                            (fun x637 =>
                                                                                              cond (decide (x637 < (0 : Int)))
                                                                                               (
                                                                                                k656 false)
                                                                                               (
                                                                                                cond (x637 != x605)
                                                                                                 (
                                                                                                  k656 false)
                                                                                                 (
                                                                                                  (g13 m) m1 m2 m3 m7 u8
                                                                                                    (fun l640 =>
                                                                                                      (g13 m) m4 m5 m6 m9 u10
                                                                                                        (fun l641 =>
                                                                                                          (g33 m) 0 m2 m2 0 m5 m5 m2 l640 m5 l641
                                                                                                            (fun x642 =>
                                                                                                              (g15 m) l245
                                                                                                                (fun b643 =>
                                                                                                                  cond (!b643)
                                                                                                                   (
                                                                                                                    k656 false)
                                                                                                                   (
                                                                                                                    cond (x642 != x244)
                                                                                                                     (
                                                                                                                      k656 false)
                                                                                                                     (
                                                                                                                      (g34v1 m) (1 : Int) l606
                                                                                                                        (fun x646 =>
                                                                                                                          cond (decide (x646 < (0 : Int)))
                                                                                                                           (
                                                                                                                            k656 false)
                                                                                                                           (
                                                                                                                            cond (x646 != x605)
                                                                                                                             (
                                                                                                                              k656 false)
                                                                                                                             (
                                                                                                                              k656 true)))))))
                                                                                                            (fun l649 =>
                                                                                                              (g15v2 m) l649 l245
                                                                                                                (fun b650 =>
                                                                                                                  cond (!b650)
                                                                                                                   (
                                                                                                                    k656 false)
                                                                                                                   (
                                                                                                                    cond ((0 : Int) != x244)
                                                                                                                     (
                                                                                                                      k656 false)
                                                                                                                     (
                                                                                                                      (g34v1 m) (1 : Int) l606
                                                                                                                        (fun x653 =>
                                                                                                                          cond (decide (x653 < (0 : Int)))
                                                                                                                           (
                                                                                                                            k656 false)
                                                                                                                           (
                                                                                                                            cond (x653 != x605)
                                                                                                                             (
                                                                                                                              k656 false)
                                                                                                                             (
                                                                                                                              k656 true)))))))))))))))))))))))))))))))))))))) := by kernel_rfl

theorem g75v1_o {α : Type} (m : Nat) (p691 : Int) (p692 : Int) (p693 : Int) (p694 : Int) (p695 : Int) (m696 : Nat) (m697 : Nat) (m698 : Nat) (m699 : Nat) (u700 : List Int) (k716 : Int → Int → Option α) : g75v1 m p691 p692 p693 p694 p695 m696 m697 m698 m699 u700 k716 =
    (g95 m) p691
      (fun b701 =>
        cond b701
         (
          if 0 ≤ p692 ∧ p692 < (m697 : Nat) then
            if (m696 + p692.toNat) < m699 then
              let x703 : Int := IntKind.wrap .i16 (List.getD u700 (m696 + p692.toNat) 0)
              (g96 m) p691
                (fun b704 =>
                  cond b704
                   (
                    if 0 ≤ p693 ∧ p693 < (m697 : Nat) then
                      if (m696 + p693.toNat) < m699 then
                        k716 x703 (IntKind.wrap .i16 (List.getD u700 (m696 + p693.toNat) 0))
                      else
                        none
                    else
                      none)
                   (
                    k716 x703 p693))
            else
              none
          else
            none)
         (
          (g96 m) p691
            (fun b707 =>
              cond b707
               (
                if 0 ≤ p692 ∧ p692 < (m697 : Nat) then
                  if (m696 + p692.toNat) < m699 then
                    let x709 : Int := IntKind.wrap .i16 (List.getD u700 (m696 + p692.toNat) 0)
                    (g96 m) p691
                      (fun b710 =>
                        cond b710
                         (
                          if 0 ≤ p693 ∧ p693 < (m697 : Nat) then
                            if (m696 + p693.toNat) < m699 then
                              k716 x709 (IntKind.wrap .i16 (List.getD u700 (m696 + p693.toNat) 0))
                            else
                              none
                          else
                            none)
                         (
                          k716 x709 p693))
                  else
                    none
                else
                  none)
               (
                (g96 m) p691
                  (fun b713 =>
                    cond b713
                     (
                      if 0 ≤ p693 ∧ p693 < (m697 : Nat) then
                        if (m696 + p693.toNat) < m699 then
                          k716 p692 (IntKind.wrap .i16 (List.getD u700 (m696 + p693.toNat) 0))
                        else
                          none
                      else
                        none)
                     (
                      k716 p692 p693)))))) := by kernel_rfl

theorem g35l2_s {α : Type} (m719 : Nat) (m720 : Nat) (m721 : Nat) (m722 : Nat) (m723 : Nat) (m724 : Nat) (v725 : Int) (m727 : Nat) (a728 : List (List Int)) (a729 : List (List Int)) (m730 : Nat) (a731 : List Int) (v732 : Int) (v733 : Int) (v734 : Int) (v735 : Int) (v736 : Int) (k745 : Int → Option α) (m : Nat) (v726 : Int) : g35l2 m719 m720 m721 m722 m723 m724 v725 m727 a728 a729 m730 a731 v732 v733 v734 v735 v736 k745 (m + 1) v726 =
    cond (decide (v726 < ((a729.length : Nat) : Int)))
     (
      if 0 ≤ v726 ∧ v726 < (a729.length : Nat) then
        if v726.toNat < a729.length then
          cond (!((((List.getD a729 v726.toNat []).headD 0) == v732) && ((((List.getD a729 v726.toNat []).tail.headD 0) == v733) && ((((List.getD a729 v726.toNat []).tail.tail.headD 0) == v734) && ((((List.getD a729 v726.toNat []).tail.tail.tail.headD 0) == v735) && (((List.getD a729 v726.toNat []).tail.tail.tail.tail.headD 0) == v736))))))
           (
            (g35l2 m719 m720 m721 m722 m723 m724 v725 m727 a728 a729 m730 a731 v732 v733 v734 v735 v736 k745 m) (IntKind.wrap .i64 (v726 + (1 : Int))))
           (
            k745 v726)
        else
          none
      else
        none)
     (
      k745 v726) := by kernel_rfl
theorem g35l2_z {α : Type} (m719 : Nat) (m720 : Nat) (m721 : Nat) (m722 : Nat) (m723 : Nat) (m724 : Nat) (v725 : Int) (m727 : Nat) (a728 : List (List Int)) (a729 : List (List Int)) (m730 : Nat) (a731 : List Int) (v732 : Int) (v733 : Int) (v734 : Int) (v735 : Int) (v736 : Int) (k745 : Int → Option α) (v726 : Int) : g35l2 m719 m720 m721 m722 m723 m724 v725 m727 a728 a729 m730 a731 v732 v733 v734 v735 v736 k745 0 v726 = none := by kernel_rfl
theorem g35l0_s {α : Type} (q : Nat) (m673 : Nat) (m674 : Nat) (m675 : Nat) (m676 : Nat) (m677 : Nat) (m678 : Nat) (m680 : Nat) (a681 : List (List Int)) (m683 : Nat) (k754 : (List (List Int)) → (List Int) → Option α) (m : Nat) (v679 : Int) (a682 : List (List Int)) (a684 : List Int) : g35l0 (g75v1 q) (g35l2M q) m673 m674 m675 m676 m677 m678 m680 a681 m683 k754 (m + 1) v679 a682 a684 =
    cond (decide (v679 < ((m674 : Nat) : Int)))
     (
      if 0 ≤ v679 ∧ v679 < (m674 : Nat) then
        if (m673 + v679.toNat) < m680 then
          let x686 : Int := (List.getD a681 (m673 + v679.toNat) []).headD 0
          let x689 : Int := (List.getD a681 (m673 + v679.toNat) []).tail.tail.tail.headD 0
          let x690 : Int := (List.getD a681 (m673 + v679.toNat) []).tail.tail.tail.tail.headD 0
          (g75v1 q) x686 ((List.getD a681 (m673 + v679.toNat) []).tail.headD 0) ((List.getD a681 (m673 + v679.toNat) []).tail.tail.headD 0) x689 x690 m676 m677 m678 m683 a684
            (fun x717 x718 =>
              g35l2 m673 m674 m675 m676 m677 m678 v679 m680 a681 a682 m683 a684 x686 x717 x718 x689 x690
                (fun x747 =>
                  cond (x747 == ((a682.length : Nat) : Int))
                   (
                    if a682.length + 1 ≤ 67108864 then
                      if 0 ≤ v679 ∧ v679 < (m677 : Nat) then
                        if (m676 + v679.toNat) < m683 then
                          (g35l0 (g75v1 q) (g35l2M q) m673 m674 m675 m676 m677 m678 m680 a681 m683 k754 m) (IntKind.wrap .i64 (v679 + (1 : Int))) (a682 ++ [[x686, x717, x718, x689, x690]]) (List.set a684 (m676 + v679.toNat) x747)
                        else
                          none
                      else
                        none
                    else
                      none)
                   (
                    if 0 ≤ v679 ∧ v679 < (m677 : Nat) then
                      if (m676 + v679.toNat) < m683 then
                        (g35l0 (g75v1 q) (g35l2M q) m673 m674 m675 m676 m677 m678 m680 a681 m683 k754 m) (IntKind.wrap .i64 (v679 + (1 : Int))) a682 (List.set a684 (m676 + v679.toNat) x747)
                      else
                        none
                    else
                      none))
                q (0 : Int))
        else
          none
      else
        none)
     (
      k754 a682 a684) := by kernel_rfl
theorem g35l0_z {α : Type} (q : Nat) (m673 : Nat) (m674 : Nat) (m675 : Nat) (m676 : Nat) (m677 : Nat) (m678 : Nat) (m680 : Nat) (a681 : List (List Int)) (m683 : Nat) (k754 : (List (List Int)) → (List Int) → Option α) (v679 : Int) (a682 : List (List Int)) (a684 : List Int) : g35l0 (g75v1 q) (g35l2M q) m673 m674 m675 m676 m677 m678 m680 a681 m683 k754 0 v679 a682 a684 = none := by kernel_rfl
theorem g35_o {α : Type} (m : Nat) (m665 : Nat) (m666 : Nat) (m667 : Nat) (m668 : Nat) (u669 : List (List Int)) (k758 : (List (List Int)) → (List Int) → Option α) (k759 : (List (List Int)) → (List Int) → Option α) : g35 m m665 m666 m667 m668 u669 k758 k759 =
    (g42 m) m665 m666 m667 m668 u669
      (fun b670 =>
        cond (!b670)
         (
          k758 [] [])
         (
          if ((m666 : Nat) : Int) = ((m666 : Nat) : Int) ∧ 0 ≤ ((m666 : Nat) : Int) ∧ ((m666 : Nat) : Int) ≤ 1048576 then
            g35l0 (g75v1 m) (g35l2M m) m665 m666 m667 0 m666 m666 m668 u669 m666
              (fun l756 l757 =>
                k759 l756 l757)
              m (0 : Int) [] (List.replicate m666 (0 : Int))
          else
            none)) := by kernel_rfl

theorem g99_o {α : Type} (m : Nat) (p808 : Int) (m809 : Nat) (m810 : Nat) (m811 : Nat) (m812 : Nat) (u813 : List Int) (k816 : Int → Option α) : g99 m p808 m809 m810 m811 m812 u813 k816 =
    if 0 ≤ p808 ∧ p808 < (m810 : Nat) then
      if (m809 + p808.toNat) < m812 then
        k816 (IntKind.wrap .i16 (List.getD u813 (m809 + p808.toNat) 0))
      else
        none
    else
      none := by kernel_rfl

theorem g77v1_o {α : Type} (m : Nat) (p795 : Int) (p796 : Int) (p797 : Int) (p798 : Int) (p799 : Int) (m800 : Nat) (m801 : Nat) (m802 : Nat) (m803 : Nat) (u804 : List Int) (k820 : Int → Int → Option α) : g77v1 m p795 p796 p797 p798 p799 m800 m801 m802 m803 u804 k820 =
    (g43 m) p795
      (fun b805 b806 b807 =>
        cond b805
         (
          (g99 m) p796 m800 m801 m802 m803 u804
            (fun x817 =>
              cond b806
               (
                (g99 m) p797 m800 m801 m802 m803 u804
                  (fun x818 =>
                    k820 x817 x818))
               (
                k820 x817 p797)))
         (
          cond b806
           (
            (g99 m) p797 m800 m801 m802 m803 u804
              (fun x819 =>
                k820 p796 x819))
           (
            k820 p796 p797))) := by kernel_rfl

theorem g100l0_s {α : Type} (v829 : Int) (a831 : List (List Int)) (v832 : Int) (v833 : Int) (v834 : Int) (v835 : Int) (v836 : Int) (k845 : Int → Option α) (k846 : Option α) (m : Nat) (v830 : Int) : g100l0 v829 a831 v832 v833 v834 v835 v836 k845 k846 (m + 1) v830 =
    cond (decide (v830 < v829))
     (
      if 0 ≤ v830 ∧ v830 < (a831.length : Nat) then
        if v830.toNat < a831.length then
          cond ((v832 == ((List.getD a831 v830.toNat []).headD 0)) && ((v833 == ((List.getD a831 v830.toNat []).tail.headD 0)) && ((v834 == ((List.getD a831 v830.toNat []).tail.tail.headD 0)) && ((v835 == ((List.getD a831 v830.toNat []).tail.tail.tail.headD 0)) && (v836 == ((List.getD a831 v830.toNat []).tail.tail.tail.tail.headD 0))))))
           (
            k845 v830)
           (
            (g100l0 v829 a831 v832 v833 v834 v835 v836 k845 k846 m) (IntKind.wrap .i64 (v830 + (1 : Int))))
        else
          none
      else
        none)
     (
      k846) := by kernel_rfl
theorem g100l0_z {α : Type} (v829 : Int) (a831 : List (List Int)) (v832 : Int) (v833 : Int) (v834 : Int) (v835 : Int) (v836 : Int) (k845 : Int → Option α) (k846 : Option α) (v830 : Int) : g100l0 v829 a831 v832 v833 v834 v835 v836 k845 k846 0 v830 = none := by kernel_rfl
theorem g100_o {α : Type} (m : Nat) (p823 : Int) (p824 : Int) (p825 : Int) (p826 : Int) (p827 : Int) (u828 : List (List Int)) (k849 : Int → Option α) : g100 m p823 p824 p825 p826 p827 u828 k849 =
    g100l0 ((u828.length : Nat) : Int) u828 p823 p824 p825 p826 p827
      (fun x848 =>
        k849 x848)
      (
        k849 (-1 : Int))
      m (0 : Int) := by kernel_rfl

theorem g79l0_s {α : Type} (q : Nat) (m776 : Nat) (m777 : Nat) (m778 : Nat) (v779 : Int) (m781 : Nat) (a782 : List (List Int)) (m784 : Nat) (m785 : Nat) (m786 : Nat) (m787 : Nat) (k857 : (List (List Int)) → (List Int) → Option α) (m : Nat) (v780 : Int) (a783 : List (List Int)) (a788 : List Int) : g79l0 (g77v1 q) (g100 q) m776 m777 m778 v779 m781 a782 m784 m785 m786 m787 k857 (m + 1) v780 a783 a788 =
    cond (decide (v780 < v779))
     (
      if 0 ≤ v780 ∧ v780 < (m777 : Nat) then
        if (m776 + v780.toNat) < m781 then
          let x790 : Int := (List.getD a782 (m776 + v780.toNat) []).headD 0
          let x793 : Int := (List.getD a782 (m776 + v780.toNat) []).tail.tail.tail.headD 0
          let x794 : Int := (List.getD a782 (m776 + v780.toNat) []).tail.tail.tail.tail.headD 0
          (g77v1 q) x790 ((List.getD a782 (m776 + v780.toNat) []).tail.headD 0) ((List.getD a782 (m776 + v780.toNat) []).tail.tail.headD 0) x793 x794 m784 m785 m786 m787 a788
            (fun x821 x822 =>
              (g100 q) x790 x821 x822 x793 x794 a783
                (fun x850 =>
                  cond (decide (x850 < (0 : Int)))
                   (
                    if a783.length + 1 ≤ 67108864 then
                      if 0 ≤ v780 ∧ v780 < (m785 : Nat) then
                        if (m784 + v780.toNat) < m787 then
                          (g79l0 (g77v1 q) (g100 q) m776 m777 m778 v779 m781 a782 m784 m785 m786 m787 k857 m) (IntKind.wrap .i64 (v780 + (1 : Int))) (a783 ++ [[x790, x821, x822, x793, x794]]) (List.set a788 (m784 + v780.toNat) ((a783.length : Nat) : Int))
                        else
                          none
                      else
                        none
                    else
                      none)
                   (
                    if 0 ≤ v780 ∧ v780 < (m785 : Nat) then
                      if (m784 + v780.toNat) < m787 then
                        (g79l0 (g77v1 q) (g100 q) m776 m777 m778 v779 m781 a782 m784 m785 m786 m787 k857 m) (IntKind.wrap .i64 (v780 + (1 : Int))) a783 (List.set a788 (m784 + v780.toNat) x850)
                      else
                        none
                    else
                      none)))
        else
          none
      else
        none)
     (
      k857 a783 a788) := by kernel_rfl
theorem g79l0_z {α : Type} (q : Nat) (m776 : Nat) (m777 : Nat) (m778 : Nat) (v779 : Int) (m781 : Nat) (a782 : List (List Int)) (m784 : Nat) (m785 : Nat) (m786 : Nat) (m787 : Nat) (k857 : (List (List Int)) → (List Int) → Option α) (v780 : Int) (a783 : List (List Int)) (a788 : List Int) : g79l0 (g77v1 q) (g100 q) m776 m777 m778 v779 m781 a782 m784 m785 m786 m787 k857 0 v780 a783 a788 = none := by kernel_rfl
theorem g79_o {α : Type} (m : Nat) (m770 : Nat) (m771 : Nat) (m772 : Nat) (m773 : Nat) (u774 : List (List Int)) (k861 : (List (List Int)) → (List Int) → Option α) : g79 m m770 m771 m772 m773 u774 k861 =
    if ((m771 : Nat) : Int) = ((m771 : Nat) : Int) ∧ 0 ≤ ((m771 : Nat) : Int) ∧ ((m771 : Nat) : Int) ≤ 1048576 then
      g79l0 (g77v1 m) (g100 m) m770 m771 m772 ((m771 : Nat) : Int) m773 u774 0 m771 m771 m771
        (fun l859 l860 =>
          k861 l859 l860)
        m (0 : Int) [] (List.replicate m771 (0 : Int))
    else
      none := by kernel_rfl

theorem g36_o {α : Type} (m : Nat) (m763 : Nat) (m764 : Nat) (m765 : Nat) (m766 : Nat) (u767 : List (List Int)) (k864 : Option α) (k865 : (List (List Int)) → (List Int) → Option α) : g36 m m763 m764 m765 m766 u767 k864 k865 =
    (g17 m) m763 m764 m765 m766 u767
      (fun b768 =>
        cond (!b768)
         (
          k864)
         (
          (g79 m) m763 m764 m765 m766 u767
            (fun l862 l863 =>
              k865 l862 l863))) := by kernel_rfl

theorem g28l0_s {α : Type} (v870 : Int) (a871 : List Int) (k873 : Option α) (m : Nat)  : g28l0 v870 a871 k873 (m + 1)  =
    cond (decide (v870 < (0 : Int)))
     (
      none)
     (
      k873) := by kernel_rfl
theorem g28l0_z {α : Type} (v870 : Int) (a871 : List Int) (k873 : Option α)  : g28l0 v870 a871 k873 0  = none := by kernel_rfl
theorem g28_o {α : Type} (m : Nat) (u868 : List Int) (k875 : Bool → Option α) : g28 m u868 k875 =
    cond ((0 : Int) != ((u868.length : Nat) : Int))
     (
      k875 false)
     (
      g28l0 (0 : Int) u868
        (
          k875 true)
        m ) := by kernel_rfl

theorem g30l0_s {α : Type} (v889 : Int) (v890 : Int) (k892 : Option α) (m : Nat)  : g30l0 v889 v890 k892 (m + 1)  =
    cond (decide (v890 < (0 : Int)))
     (
      none)
     (
      k892) := by kernel_rfl
theorem g30l0_z {α : Type} (v889 : Int) (v890 : Int) (k892 : Option α)  : g30l0 v889 v890 k892 0  = none := by kernel_rfl
theorem g30_o {α : Type} (m : Nat) (p888 : Int) (k894 : Option α) : g30 m p888 k894 =
    g30l0 p888 (0 : Int)
      (
        k894)
      m  := by kernel_rfl

theorem g31l0_s {α : Type} (v896 : Int) (v897 : Int) (k899 : Option α) (m : Nat)  : g31l0 v896 v897 k899 (m + 1)  =
    cond (decide (v897 < (0 : Int)))
     (
      none)
     (
      k899) := by kernel_rfl
theorem g31l0_z {α : Type} (v896 : Int) (v897 : Int) (k899 : Option α)  : g31l0 v896 v897 k899 0  = none := by kernel_rfl
theorem g31_o {α : Type} (m : Nat) (p895 : Int) (k901 : Option α) : g31 m p895 k901 =
    g31l0 p895 (0 : Int)
      (
        k901)
      m  := by kernel_rfl

theorem g28v1l0_s {α : Type} (m918 : Nat) (m919 : Nat) (m920 : Nat) (m922 : Nat) (a923 : List Int) (a924 : List Int) (k930 : Option α) (k931 : Option α) (m : Nat) (v921 : Int) : g28v1l0 m918 m919 m920 m922 a923 a924 k930 k931 (m + 1) v921 =
    cond (decide (v921 < ((m919 : Nat) : Int)))
     (
      if 0 ≤ v921 ∧ v921 < (m919 : Nat) then
        if (m918 + v921.toNat) < m922 then
          if 0 ≤ v921 ∧ v921 < (a924.length : Nat) then
            if v921.toNat < a924.length then
              cond ((List.getD a923 (m918 + v921.toNat) 0) != (List.getD a924 v921.toNat 0))
               (
                k930)
               (
                (g28v1l0 m918 m919 m920 m922 a923 a924 k930 k931 m) (IntKind.wrap .i64 (v921 + (1 : Int))))
            else
              none
          else
            none
        else
          none
      else
        none)
     (
      k931) := by kernel_rfl
theorem g28v1l0_z {α : Type} (m918 : Nat) (m919 : Nat) (m920 : Nat) (m922 : Nat) (a923 : List Int) (a924 : List Int) (k930 : Option α) (k931 : Option α) (v921 : Int) : g28v1l0 m918 m919 m920 m922 a923 a924 k930 k931 0 v921 = none := by kernel_rfl
theorem g28v1_o {α : Type} (m : Nat) (m911 : Nat) (m912 : Nat) (m913 : Nat) (m914 : Nat) (u915 : List Int) (u916 : List Int) (k933 : Bool → Option α) : g28v1 m m911 m912 m913 m914 u915 u916 k933 =
    cond (((m912 : Nat) : Int) != ((u916.length : Nat) : Int))
     (
      k933 false)
     (
      g28v1l0 m911 m912 m913 m914 u915 u916
        (
          k933 false)
        (
          k933 true)
        m (0 : Int)) := by kernel_rfl

theorem g28v2l0_s {α : Type} (m953 : Nat) (m954 : Nat) (m955 : Nat) (v956 : Int) (m957 : Nat) (a958 : List Int) (k960 : Option α) (m : Nat)  : g28v2l0 m953 m954 m955 v956 m957 a958 k960 (m + 1)  =
    cond (decide (v956 < (0 : Int)))
     (
      none)
     (
      k960) := by kernel_rfl
theorem g28v2l0_z {α : Type} (m953 : Nat) (m954 : Nat) (m955 : Nat) (v956 : Int) (m957 : Nat) (a958 : List Int) (k960 : Option α)  : g28v2l0 m953 m954 m955 v956 m957 a958 k960 0  = none := by kernel_rfl
theorem g28v2_o {α : Type} (m : Nat) (m947 : Nat) (m948 : Nat) (m949 : Nat) (m950 : Nat) (u951 : List Int) (k962 : Bool → Option α) : g28v2 m m947 m948 m949 m950 u951 k962 =
    cond ((0 : Int) != ((m948 : Nat) : Int))
     (
      k962 false)
     (
      g28v2l0 m947 m948 m949 (0 : Int) m950 u951
        (
          k962 true)
        m ) := by kernel_rfl

theorem g28v3l0_s {α : Type} (m980 : Nat) (m981 : Nat) (m982 : Nat) (m983 : Nat) (m984 : Nat) (m985 : Nat) (m987 : Nat) (a988 : List Int) (m989 : Nat) (a990 : List Int) (k996 : Option α) (k997 : Option α) (m : Nat) (v986 : Int) : g28v3l0 m980 m981 m982 m983 m984 m985 m987 a988 m989 a990 k996 k997 (m + 1) v986 =
    cond (decide (v986 < ((m981 : Nat) : Int)))
     (
      if 0 ≤ v986 ∧ v986 < (m981 : Nat) then
        if (m980 + v986.toNat) < m987 then
          if 0 ≤ v986 ∧ v986 < (m984 : Nat) then
            if (m983 + v986.toNat) < m989 then
              cond ((List.getD a988 (m980 + v986.toNat) 0) != (List.getD a990 (m983 + v986.toNat) 0))
               (
                k996)
               (
                (g28v3l0 m980 m981 m982 m983 m984 m985 m987 a988 m989 a990 k996 k997 m) (IntKind.wrap .i64 (v986 + (1 : Int))))
            else
              none
          else
            none
        else
          none
      else
        none)
     (
      k997) := by kernel_rfl
theorem g28v3l0_z {α : Type} (m980 : Nat) (m981 : Nat) (m982 : Nat) (m983 : Nat) (m984 : Nat) (m985 : Nat) (m987 : Nat) (a988 : List Int) (m989 : Nat) (a990 : List Int) (k996 : Option α) (k997 : Option α) (v986 : Int) : g28v3l0 m980 m981 m982 m983 m984 m985 m987 a988 m989 a990 k996 k997 0 v986 = none := by kernel_rfl
theorem g28v3_o {α : Type} (m : Nat) (m969 : Nat) (m970 : Nat) (m971 : Nat) (m972 : Nat) (m973 : Nat) (m974 : Nat) (m975 : Nat) (u976 : List Int) (m977 : Nat) (u978 : List Int) (k999 : Bool → Option α) : g28v3 m m969 m970 m971 m972 m973 m974 m975 u976 m977 u978 k999 =
    cond (((m970 : Nat) : Int) != ((m973 : Nat) : Int))
     (
      k999 false)
     (
      g28v3l0 m969 m970 m971 m972 m973 m974 m975 u976 m977 u978
        (
          k999 false)
        (
          k999 true)
        m (0 : Int)) := by kernel_rfl

theorem g30v1l0_s {α : Type} (m1020 : Nat) (m1021 : Nat) (m1022 : Nat) (m1025 : Nat) (k1031 : Int → (List Int) → Option α) (m : Nat) (v1023 : Int) (v1024 : Int) (a1026 : List Int) : g30v1l0 m1020 m1021 m1022 m1025 k1031 (m + 1) v1023 v1024 a1026 =
    cond (decide (v1024 < ((m1021 : Nat) : Int)))
     (
      if 0 ≤ v1024 ∧ v1024 < (m1021 : Nat) then
        if (m1020 + v1024.toNat) < m1025 then
          (g30v1l0 m1020 m1021 m1022 m1025 k1031 m) (IntKind.wrap .i64 (v1023 + (1 : Int))) (IntKind.wrap .i64 (v1024 + (1 : Int))) (List.set a1026 (m1020 + v1024.toNat) v1023)
        else
          none
      else
        none)
     (
      k1031 v1023 a1026) := by kernel_rfl
theorem g30v1l0_z {α : Type} (m1020 : Nat) (m1021 : Nat) (m1022 : Nat) (m1025 : Nat) (k1031 : Int → (List Int) → Option α) (v1023 : Int) (v1024 : Int) (a1026 : List Int) : g30v1l0 m1020 m1021 m1022 m1025 k1031 0 v1023 v1024 a1026 = none := by kernel_rfl
theorem g30v1_o {α : Type} (m : Nat) (m1014 : Nat) (m1015 : Nat) (m1016 : Nat) (p1017 : Int) (m1018 : Nat) (u1019 : List Int) (k1035 : Int → (List Int) → Option α) : g30v1 m m1014 m1015 m1016 p1017 m1018 u1019 k1035 =
    g30v1l0 m1014 m1015 m1016 m1018
      (fun x1033 l1034 =>
        k1035 x1033 l1034)
      m p1017 (0 : Int) u1019 := by kernel_rfl

theorem g31v1l0_s {α : Type} (m1046 : Nat) (m1047 : Nat) (m1048 : Nat) (m1051 : Nat) (a1052 : List Int) (k1058 : Option α) (k1059 : Int → Option α) (m : Nat) (v1049 : Int) (v1050 : Int) : g31v1l0 m1046 m1047 m1048 m1051 a1052 k1058 k1059 (m + 1) v1049 v1050 =
    cond (decide (v1050 < ((m1047 : Nat) : Int)))
     (
      if 0 ≤ v1050 ∧ v1050 < (m1047 : Nat) then
        if (m1046 + v1050.toNat) < m1051 then
          cond ((List.getD a1052 (m1046 + v1050.toNat) 0) != v1049)
           (
            k1058)
           (
            (g31v1l0 m1046 m1047 m1048 m1051 a1052 k1058 k1059 m) (IntKind.wrap .i64 (v1049 + (1 : Int))) (IntKind.wrap .i64 (v1050 + (1 : Int))))
        else
          none
      else
        none)
     (
      k1059 v1049) := by kernel_rfl
theorem g31v1l0_z {α : Type} (m1046 : Nat) (m1047 : Nat) (m1048 : Nat) (m1051 : Nat) (a1052 : List Int) (k1058 : Option α) (k1059 : Int → Option α) (v1049 : Int) (v1050 : Int) : g31v1l0 m1046 m1047 m1048 m1051 a1052 k1058 k1059 0 v1049 v1050 = none := by kernel_rfl
theorem g31v1_o {α : Type} (m : Nat) (m1040 : Nat) (m1041 : Nat) (m1042 : Nat) (p1043 : Int) (m1044 : Nat) (u1045 : List Int) (k1062 : Int → Option α) : g31v1 m m1040 m1041 m1042 p1043 m1044 u1045 k1062 =
    g31v1l0 m1040 m1041 m1042 m1044 u1045
      (
        k1062 (-1 : Int))
      (fun x1061 =>
        k1062 x1061)
      m p1043 (0 : Int) := by kernel_rfl

theorem g9_o {α : Type} (m : Nat) (m657 : Nat) (m658 : Nat) (m659 : Nat) (m660 : Nat) (u661 : List (List Int)) (k1082 : Bool → Option α) : g9 m m657 m658 m659 m660 u661 k1082 =
    (g11 m) m657 m658 m659 (1048576 : Int) m660 u661
      (fun x662 =>
        cond (decide (x662 < (0 : Int)))
         (
          k1082 true)
         (
          (g13 m) m657 m658 m659 m660 u661
            (fun l664 =>
              (g35 m) 0 m658 m658 m658 l664
                (fun l760 l761 =>
                  (g13 m) m657 m658 m659 m660 u661
                    (fun l762 =>
                      (g36 m) 0 m658 m658 m658 l762
                        (
                          (g15 m) l760
                            (fun b866 =>
                              cond (!b866)
                               (
                                k1082 false)
                               (
                                (g28 m) l761
                                  (fun b876 =>
                                    cond (!b876)
                                     (
                                      k1082 false)
                                     (
                                      (g13 m) m657 m658 m659 m660 u661
                                        (fun l878 =>
                                          (g15v1 m) 0 m658 m658 0 m658 m658 m658 l762 m658 l878
                                            (fun b879 =>
                                              cond (!b879)
                                               (
                                                k1082 false)
                                               (
                                                (g29 m) 0 m658 m658 (1 : Int) m658 l762
                                                  (fun x881 l882 =>
                                                    cond (decide (x881 < (0 : Int)))
                                                     (
                                                      k1082 false)
                                                     (
                                                      (g15 m) l760
                                                        (fun b884 =>
                                                          cond (!b884)
                                                           (
                                                            k1082 false)
                                                           (
                                                            (g28 m) l761
                                                              (fun b886 =>
                                                                cond (!b886)
                                                                 (
                                                                  k1082 false)
                                                                 (
                                                                  (g29v1 m) (1 : Int)
                                                                    (
                                                                      (g30 m) (1 : Int)
                                                                        (
                                                                          (g34 m) (1 : Int)
                                                                            (
                                                                              (g31 m) (1 : Int)
                                                                                (
                                                                                  (g13 m) m657 m658 m659 m660 u661
                                                                                    (fun l902 =>
                                                                                      (g36 m) 0 m658 m658 m658 l902
                                                                                        (
                                                                                          (g15 m) l760
                                                                                            (fun b903 =>
                                                                                              cond (!b903)
                                                                                               (
                                                                                                k1082 false)
                                                                                               (
                                                                                                (g28 m) l761
                                                                                                  (fun b905 =>
                                                                                                    cond (!b905)
                                                                                                     (
                                                                                                      k1082 false)
                                                                                                     (
                                                                                                      (g34 m) (1 : Int)
                                                                                                        (
                                                                                                          (g31 m) (1 : Int)
                                                                                                            (
                                                                                                              k1082 true)))))))
                                                                                        (fun l907 l908 =>
                                                                                          (g15v2 m) l907 l760
                                                                                            (fun b909 =>
                                                                                              cond (!b909)
                                                                                               (
                                                                                                k1082 false)
                                                                                               (
                                                                                                (g28v1 m) 0 m658 m658 m658 l908 l761
                                                                                                  (fun b934 =>
                                                                                                    cond (!b934)
                                                                                                     (
                                                                                                      k1082 false)
                                                                                                     (
                                                                                                      k1082 false))))))))))))))))))))))))
                        (fun l936 l937 =>
                          (g15v2 m) l936 l760
                            (fun b938 =>
                              cond (!b938)
                               (
                                k1082 false)
                               (
                                (g28v1 m) 0 m658 m658 m658 l937 l761
                                  (fun b940 =>
                                    cond (!b940)
                                     (
                                      k1082 false)
                                     (
                                      k1082 false)))))))
                (fun l942 l943 =>
                  (g13 m) m657 m658 m659 m660 u661
                    (fun l944 =>
                      (g36 m) 0 m658 m658 m658 l944
                        (
                          (g15 m) l942
                            (fun b945 =>
                              cond (!b945)
                               (
                                k1082 false)
                               (
                                (g28v2 m) 0 m658 m658 m658 l943
                                  (fun b963 =>
                                    cond (!b963)
                                     (
                                      k1082 false)
                                     (
                                      k1082 false)))))
                        (fun l965 l966 =>
                          (g15v2 m) l965 l942
                            (fun b967 =>
                              cond (!b967)
                               (
                                k1082 false)
                               (
                                (g28v3 m) 0 m658 m658 0 m658 m658 m658 l966 m658 l943
                                  (fun b1000 =>
                                    cond (!b1000)
                                     (
                                      k1082 false)
                                     (
                                      (g13 m) m657 m658 m659 m660 u661
                                        (fun l1002 =>
                                          (g15v1 m) 0 m658 m658 0 m658 m658 m658 l944 m658 l1002
                                            (fun b1003 =>
                                              cond (!b1003)
                                               (
                                                k1082 false)
                                               (
                                                (g29 m) 0 m658 m658 (1 : Int) m658 l944
                                                  (fun x1005 l1006 =>
                                                    cond (decide (x1005 < (0 : Int)))
                                                     (
                                                      k1082 false)
                                                     (
                                                      (g15v2 m) l965 l942
                                                        (fun b1008 =>
                                                          cond (!b1008)
                                                           (
                                                            k1082 false)
                                                           (
                                                            (g28v3 m) 0 m658 m658 0 m658 m658 m658 l966 m658 l943
                                                              (fun b1010 =>
                                                                cond (!b1010)
                                                                 (
                                                                  k1082 false)
                                                                 (
                                                                  (g29v2 m) (1 : Int) l965
                                                                    (fun x1012 l1013 =>
                                                                      (g30v1 m) 0 m658 m658 x1012 m658 l966
                                                                        (fun x1036 l1037 =>
                                                                          (g34v1 m) (1 : Int) l1013
                                                                            (fun x1038 =>
                                                                              cond (decide (x1038 < (0 : Int)))
                                                                               (
                                                                                k1082 false)
                                                                               (
                                                                                (g31v1 m) 0 m658 m658 x1038 m658 l1037
                                                                                  (fun x1063 =>
                                                                                    cond (decide (x1063 < (0 : Int)))
                                                                                     (
                                                                                      k1082 false)
                                                                                     (
                                                                                      cond (x1063 != x1036)
                                                                                       (
                                                                                        k1082 false)
                                                                                       (
                                                                                        (g13 m) m657 m658 m659 m660 u661
                                                                                          (fun l1066 =>
                                                                                            (g36 m) 0 m658 m658 m658 l1066
                                                                                              (
                                                                                                (g15 m) l942
                                                                                                  (fun b1067 =>
                                                                                                    cond (!b1067)
                                                                                                     (
                                                                                                      k1082 false)
                                                                                                     (
                                                                                                      (g28v2 m) 0 m658 m658 m658 l943
                                                                                                        (fun b1069 =>
                                                                                                          cond (!b1069)
                                                                                                           (
                                                                                                            k1082 false)
                                                                                                           (
                                                                                                            k1082 false)))))
                                                                                              (fun l1071 l1072 =>
                                                                                                (g15v2 m) l1071 l942
                                                                                                  (fun b1073 =>
                                                                                                    cond (!b1073)
                                                                                                     (
                                                                                                      k1082 false)
                                                                                                     (
                                                                                                      (g28v3 m) 0 m658 m658 0 m658 m658 m658 l1072 m658 l943
                                                                                                        (fun b1075 =>
                                                                                                          cond (!b1075)
                                                                                                           (
                                                                                                            k1082 false)
                                                                                                           (
                                                                                                            (g34v1 m) (1 : Int) l1013
                                                                                                              (fun x1077 =>
                                                                                                                cond (decide (x1077 < (0 : Int)))
                                                                                                                 (
                                                                                                                  k1082 false)
                                                                                                                 (
                                                                                                                  (g31v1 m) 0 m658 m658 x1077 m658 l1037
                                                                                                                    (fun x1079 =>
                                                                                                                      cond (decide (x1079 < (0 : Int)))
                                                                                                                       (
                                                                                                                        k1082 false)
                                                                                                                       (
                                                                                                                        cond (x1079 != x1036)
                                                                                                                         (
                                                                                                                          k1082 false)
                                                                                                                         (
                                                                                                                          k1082 true))))))))))))))))))))))))))))))))))))) := by kernel_rfl

theorem g94_o {α : Type} (m : Nat) (m1107 : Nat) (m1108 : Nat) (m1109 : Nat) (p1110 : Int) (m1111 : Nat) (u1112 : List (List Int)) (k1115 : Bool → Option α) : g94 m m1107 m1108 m1109 p1110 m1111 u1112 k1115 =
    (g81 m) p1110 (0 : Int) (IntKind.wrap .i64 (((m1108 : Nat) : Int) - (1 : Int)))
      (fun b1114 =>
        k1115 b1114) := by kernel_rfl

theorem g58_o {α : Type} (m : Nat) (p1118 : Int) (k1120 : Bool → Option α) : g58 m p1118 k1120 =
    (g81 m) p1118 (0 : Int) (64 : Int)
      (fun b1119 =>
        k1120 b1119) := by kernel_rfl

theorem g71_o {α : Type} (m : Nat) (m1098 : Nat) (m1099 : Nat) (m1100 : Nat) (p1101 : Int) (p1102 : Int) (m1103 : Nat) (u1104 : List (List Int)) (k1123 : Int → Option α) : g71 m m1098 m1099 m1100 p1101 p1102 m1103 u1104 k1123 =
    (g42 m) m1098 m1099 m1100 m1103 u1104
      (fun b1105 =>
        cond (!b1105)
         (
          k1123 (1 : Int))
         (
          (g94 m) m1098 m1099 m1100 p1101 m1103 u1104
            (fun b1116 =>
              cond (!b1116)
               (
                k1123 (2 : Int))
               (
                (g58 m) p1102
                  (fun b1121 =>
                    cond (!b1121)
                     (
                      k1123 (2 : Int))
                     (
                      k1123 (0 : Int))))))) := by kernel_rfl

theorem g72l0_s {α : Type} (q : Nat) (m1134 : Nat) (m1135 : Nat) (m1136 : Nat) (m1137 : Nat) (m1138 : Nat) (m1139 : Nat) (m1141 : Nat) (a1142 : List (List Int)) (m1143 : Nat) (k1177 : (List Int) → Option α) (m : Nat) (v1140 : Int) (a1144 : List Bool) (a1145 : List Int) : g72l0 (g95 q) (g96 q) m1134 m1135 m1136 m1137 m1138 m1139 m1141 a1142 m1143 k1177 (m + 1) v1140 a1144 a1145 =
    cond (decide (v1140 ≥ (0 : Int)))
     (
      if 0 ≤ v1140 ∧ v1140 < (m1138 : Nat) then
        if (m1137 + v1140.toNat) < m1143 then
          cond (!(List.getD a1144 (m1137 + v1140.toNat) false))
           (
            (g72l0 (g95 q) (g96 q) m1134 m1135 m1136 m1137 m1138 m1139 m1141 a1142 m1143 k1177 m) (IntKind.wrap .i64 (v1140 - (1 : Int))) a1144 a1145)
           (
            if 1 + a1145.length ≤ 67108864 then
              let l1150 : List Int := [v1140] ++ a1145
              if 0 ≤ v1140 ∧ v1140 < (m1135 : Nat) then
                if (m1134 + v1140.toNat) < m1141 then
                  (g95 q) ((List.getD a1142 (m1134 + v1140.toNat) []).headD 0)
                    (fun b1152 =>
                      cond b1152
                       (
                        if 0 ≤ v1140 ∧ v1140 < (m1135 : Nat) then
                          if (m1134 + v1140.toNat) < m1141 then
                            let x1153 : Int := ((List.getD a1142 (m1134 + v1140.toNat) []).tail).headD 0
                            if 0 ≤ x1153 ∧ x1153 < (m1138 : Nat) then
                              if (m1137 + x1153.toNat) < m1143 then
                                let l1154 : List Bool := List.set a1144 (m1137 + x1153.toNat) true
                                if 0 ≤ v1140 ∧ v1140 < (m1135 : Nat) then
                                  if (m1134 + v1140.toNat) < m1141 then
                                    (g96 q) ((List.getD a1142 (m1134 + v1140.toNat) []).headD 0)
                                      (fun b1156 =>
                                        cond b1156
                                         (
                                          if 0 ≤ v1140 ∧ v1140 < (m1135 : Nat) then
                                            if (m1134 + v1140.toNat) < m1141 then
                                              let x1157 : Int := ((List.getD a1142 (m1134 + v1140.toNat) []).tail.tail).headD 0
                                              if 0 ≤ x1157 ∧ x1157 < (m1138 : Nat) then
                                                if (m1137 + x1157.toNat) < m1143 then
                                                  (g72l0 (g95 q) (g96 q) m1134 m1135 m1136 m1137 m1138 m1139 m1141 a1142 m1143 k1177 m) (IntKind.wrap .i64 (v1140 - (1 : Int))) (List.set l1154 (m1137 + x1157.toNat) true) l1150
                                                else
                                                  none
                                              else
                                                none
                                            else
                                              none
                                          else
                                            none)
                                         (
                                          (g72l0 (g95 q) (g96 q) m1134 m1135 m1136 m1137 m1138 m1139 m1141 a1142 m1143 k1177 m) (IntKind.wrap .i64 (v1140 - (1 : Int))) l1154 l1150))
                                  else
                                    none
                                else
                                  none
                              else
                                none
                            else
                              none
                          else
                            none
                        else
                          none)
                       (
                        if 0 ≤ v1140 ∧ v1140 < (m1135 : Nat) then
                          if (m1134 + v1140.toNat) < m1141 then
                            (g96 q) ((List.getD a1142 (m1134 + v1140.toNat) []).headD 0)
                              (fun b1162 =>
                                cond b1162
                                 (
                                  if 0 ≤ v1140 ∧ v1140 < (m1135 : Nat) then
                                    if (m1134 + v1140.toNat) < m1141 then
                                      let x1163 : Int := ((List.getD a1142 (m1134 + v1140.toNat) []).tail).headD 0
                                      if 0 ≤ x1163 ∧ x1163 < (m1138 : Nat) then
                                        if (m1137 + x1163.toNat) < m1143 then
                                          let l1164 : List Bool := List.set a1144 (m1137 + x1163.toNat) true
                                          if 0 ≤ v1140 ∧ v1140 < (m1135 : Nat) then
                                            if (m1134 + v1140.toNat) < m1141 then
                                              (g96 q) ((List.getD a1142 (m1134 + v1140.toNat) []).headD 0)
                                                (fun b1166 =>
                                                  cond b1166
                                                   (
                                                    if 0 ≤ v1140 ∧ v1140 < (m1135 : Nat) then
                                                      if (m1134 + v1140.toNat) < m1141 then
                                                        let x1167 : Int := ((List.getD a1142 (m1134 + v1140.toNat) []).tail.tail).headD 0
                                                        if 0 ≤ x1167 ∧ x1167 < (m1138 : Nat) then
                                                          if (m1137 + x1167.toNat) < m1143 then
                                                            (g72l0 (g95 q) (g96 q) m1134 m1135 m1136 m1137 m1138 m1139 m1141 a1142 m1143 k1177 m) (IntKind.wrap .i64 (v1140 - (1 : Int))) (List.set l1164 (m1137 + x1167.toNat) true) l1150
                                                          else
                                                            none
                                                        else
                                                          none
                                                      else
                                                        none
                                                    else
                                                      none)
                                                   (
                                                    (g72l0 (g95 q) (g96 q) m1134 m1135 m1136 m1137 m1138 m1139 m1141 a1142 m1143 k1177 m) (IntKind.wrap .i64 (v1140 - (1 : Int))) l1164 l1150))
                                            else
                                              none
                                          else
                                            none
                                        else
                                          none
                                      else
                                        none
                                    else
                                      none
                                  else
                                    none)
                                 (
                                  if 0 ≤ v1140 ∧ v1140 < (m1135 : Nat) then
                                    if (m1134 + v1140.toNat) < m1141 then
                                      (g96 q) ((List.getD a1142 (m1134 + v1140.toNat) []).headD 0)
                                        (fun b1172 =>
                                          cond b1172
                                           (
                                            if 0 ≤ v1140 ∧ v1140 < (m1135 : Nat) then
                                              if (m1134 + v1140.toNat) < m1141 then
                                                let x1173 : Int := ((List.getD a1142 (m1134 + v1140.toNat) []).tail.tail).headD 0
                                                if 0 ≤ x1173 ∧ x1173 < (m1138 : Nat) then
                                                  if (m1137 + x1173.toNat) < m1143 then
                                                    (g72l0 (g95 q) (g96 q) m1134 m1135 m1136 m1137 m1138 m1139 m1141 a1142 m1143 k1177 m) (IntKind.wrap .i64 (v1140 - (1 : Int))) (List.set a1144 (m1137 + x1173.toNat) true) l1150
                                                  else
                                                    none
                                                else
                                                  none
                                              else
                                                none
                                            else
                                              none)
                                           (
                                            (g72l0 (g95 q) (g96 q) m1134 m1135 m1136 m1137 m1138 m1139 m1141 a1142 m1143 k1177 m) (IntKind.wrap .i64 (v1140 - (1 : Int))) a1144 l1150))
                                    else
                                      none
                                  else
                                    none))
                          else
                            none
                        else
                          none))
                else
                  none
              else
                none
            else
              none)
        else
          none
      else
        none)
     (
      k1177 a1145) := by kernel_rfl
theorem g72l0_z {α : Type} (q : Nat) (m1134 : Nat) (m1135 : Nat) (m1136 : Nat) (m1137 : Nat) (m1138 : Nat) (m1139 : Nat) (m1141 : Nat) (a1142 : List (List Int)) (m1143 : Nat) (k1177 : (List Int) → Option α) (v1140 : Int) (a1144 : List Bool) (a1145 : List Int) : g72l0 (g95 q) (g96 q) m1134 m1135 m1136 m1137 m1138 m1139 m1141 a1142 m1143 k1177 0 v1140 a1144 a1145 = none := by kernel_rfl
theorem g72_o {α : Type} (m : Nat) (m1126 : Nat) (m1127 : Nat) (m1128 : Nat) (p1129 : Int) (m1130 : Nat) (u1131 : List (List Int)) (k1180 : (List Int) → Option α) : g72 m m1126 m1127 m1128 p1129 m1130 u1131 k1180 =
    if ((m1127 : Nat) : Int) = ((m1127 : Nat) : Int) ∧ 0 ≤ ((m1127 : Nat) : Int) ∧ ((m1127 : Nat) : Int) ≤ 1048576 then
      if 0 ≤ p1129 ∧ p1129 < (m1127 : Nat) then
        if (0 + p1129.toNat) < m1127 then
          g72l0 (g95 m) (g96 m) m1126 m1127 m1128 0 m1127 m1127 m1130 u1131 m1127
            (fun l1179 =>
              k1180 l1179)
            m p1129 (List.set (List.replicate m1127 false) (0 + p1129.toNat) true) []
        else
          none
      else
        none
    else
      none := by kernel_rfl

theorem g26_o {α : Type} (m : Nat) (m1092 : Nat) (m1093 : Nat) (m1094 : Nat) (p1095 : Int) (m1096 : Nat) (u1097 : List (List Int)) (k1182 : Int → (List Int) → Option α) : g26 m m1092 m1093 m1094 p1095 m1096 u1097 k1182 =
    (g71 m) m1092 m1093 m1094 p1095 (0 : Int) m1096 u1097
      (fun x1124 =>
        cond (x1124 != (0 : Int))
         (
          k1182 x1124 [])
         (
          (g72 m) m1092 m1093 m1094 p1095 m1096 u1097
            (fun l1181 =>
              k1182 (0 : Int) l1181))) := by kernel_rfl

theorem g97l0_s {α : Type} (q : Nat) (m1214 : Nat) (m1215 : Nat) (m1216 : Nat) (m1217 : Nat) (m1218 : Nat) (m1219 : Nat) (v1220 : Int) (m1222 : Nat) (a1223 : List (List Int)) (a1224 : List Int) (k1231 : Option α) (k1232 : Option α) (m : Nat) (v1221 : Int) : g97l0 (g64 q) m1214 m1215 m1216 m1217 m1218 m1219 v1220 m1222 a1223 a1224 k1231 k1232 (m + 1) v1221 =
    cond (decide (v1221 < v1220))
     (
      if 0 ≤ v1221 ∧ v1221 < (m1218 : Nat) then
        if (m1217 + v1221.toNat) < 1 then
          (g64 q) (List.getD a1224 (m1217 + v1221.toNat) 0) (0 : Int) (IntKind.wrap .i64 (((m1215 : Nat) : Int) - (1 : Int)))
            (fun b1228 =>
              cond (!b1228)
               (
                k1231)
               (
                (g97l0 (g64 q) m1214 m1215 m1216 m1217 m1218 m1219 v1220 m1222 a1223 a1224 k1231 k1232 m) (IntKind.wrap .i64 (v1221 + (1 : Int)))))
        else
          none
      else
        none)
     (
      k1232) := by kernel_rfl
theorem g97l0_z {α : Type} (q : Nat) (m1214 : Nat) (m1215 : Nat) (m1216 : Nat) (m1217 : Nat) (m1218 : Nat) (m1219 : Nat) (v1220 : Int) (m1222 : Nat) (a1223 : List (List Int)) (a1224 : List Int) (k1231 : Option α) (k1232 : Option α) (v1221 : Int) : g97l0 (g64 q) m1214 m1215 m1216 m1217 m1218 m1219 v1220 m1222 a1223 a1224 k1231 k1232 0 v1221 = none := by kernel_rfl
theorem g97_o {α : Type} (m : Nat) (m1205 : Nat) (m1206 : Nat) (m1207 : Nat) (m1208 : Nat) (m1209 : Nat) (m1210 : Nat) (m1211 : Nat) (u1212 : List (List Int)) (u1213 : List Int) (k1234 : Bool → Option α) : g97 m m1205 m1206 m1207 m1208 m1209 m1210 m1211 u1212 u1213 k1234 =
    g97l0 (g64 m) m1205 m1206 m1207 m1208 m1209 m1210 ((m1209 : Nat) : Int) m1211 u1212 u1213
      (
        k1234 false)
      (
        k1234 true)
      m (0 : Int) := by kernel_rfl

theorem g98_o {α : Type} (m : Nat) (m1239 : Nat) (m1240 : Nat) (m1241 : Nat) (m1242 : Nat) (u1243 : List (List Int)) (k1244 : Option α) : g98 m m1239 m1240 m1241 m1242 u1243 k1244 =
    k1244 := by kernel_rfl

theorem g73_o {α : Type} (m : Nat) (m1192 : Nat) (m1193 : Nat) (m1194 : Nat) (p1195 : Int) (p1196 : Int) (m1197 : Nat) (m1198 : Nat) (m1199 : Nat) (m1200 : Nat) (u1201 : List (List Int)) (u1202 : List Int) (k1245 : Int → Option α) (k1246 : Option α) : g73 m m1192 m1193 m1194 p1195 p1196 m1197 m1198 m1199 m1200 u1201 u1202 k1245 k1246 =
    (g17 m) m1192 m1193 m1194 m1200 u1201
      (fun b1203 =>
        cond (!b1203)
         (
          k1245 (1 : Int))
         (
          (g97 m) m1192 m1193 m1194 m1197 m1198 m1199 m1200 u1201 u1202
            (fun b1235 =>
              cond (!b1235)
               (
                k1245 (2 : Int))
               (
                (g64 m) p1195 (0 : Int) p1196
                  (fun b1237 =>
                    cond (!b1237)
                     (
                      k1245 (2 : Int))
                     (
                      (g98 m) m1192 m1193 m1194 m1200 u1201
                        (
                          k1246))))))) := by kernel_rfl

theorem g74l0_s {α : Type} (q : Nat) (m1257 : Nat) (m1258 : Nat) (m1259 : Nat) (m1260 : Nat) (m1261 : Nat) (m1262 : Nat) (m1264 : Nat) (a1265 : List (List Int)) (m1266 : Nat) (k1286 : (List Bool) → Option α) (m : Nat) (v1263 : Int) (a1267 : List Bool) : g74l0 (g43 q) m1257 m1258 m1259 m1260 m1261 m1262 m1264 a1265 m1266 k1286 (m + 1) v1263 a1267 =
    cond (decide (v1263 ≥ (0 : Int)))
     (
      if 0 ≤ v1263 ∧ v1263 < (m1261 : Nat) then
        if (m1260 + v1263.toNat) < m1266 then
          cond (!(List.getD a1267 (m1260 + v1263.toNat) false))
           (
            (g74l0 (g43 q) m1257 m1258 m1259 m1260 m1261 m1262 m1264 a1265 m1266 k1286 m) (IntKind.wrap .i64 (v1263 - (1 : Int))) a1267)
           (
            if 0 ≤ v1263 ∧ v1263 < (m1258 : Nat) then
              if (m1257 + v1263.toNat) < m1264 then
                (g43 q) ((List.getD a1265 (m1257 + v1263.toNat) []).headD 0)
                  (fun b1273 b1274 b1275 =>
                    cond b1273
                     (
                      if 0 ≤ v1263 ∧ v1263 < (m1258 : Nat) then
                        if (m1257 + v1263.toNat) < m1264 then
                          let x1276 : Int := ((List.getD a1265 (m1257 + v1263.toNat) []).tail).headD 0
                          if 0 ≤ x1276 ∧ x1276 < (m1261 : Nat) then
                            if (m1260 + x1276.toNat) < m1266 then
                              let l1277 : List Bool := List.set a1267 (m1260 + x1276.toNat) true
                              cond b1274
                               (
                                if 0 ≤ v1263 ∧ v1263 < (m1258 : Nat) then
                                  if (m1257 + v1263.toNat) < m1264 then
                                    let x1278 : Int := ((List.getD a1265 (m1257 + v1263.toNat) []).tail.tail).headD 0
                                    if 0 ≤ x1278 ∧ x1278 < (m1261 : Nat) then
                                      if (m1260 + x1278.toNat) < m1266 then
                                        (g74l0 (g43 q) m1257 m1258 m1259 m1260 m1261 m1262 m1264 a1265 m1266 k1286 m) (IntKind.wrap .i64 (v1263 - (1 : Int))) (List.set l1277 (m1260 + x1278.toNat) true)
                                      else
                                        none
                                    else
                                      none
                                  else
                                    none
                                else
                                  none)
                               (
                                (g74l0 (g43 q) m1257 m1258 m1259 m1260 m1261 m1262 m1264 a1265 m1266 k1286 m) (IntKind.wrap .i64 (v1263 - (1 : Int))) l1277)
                            else
                              none
                          else
                            none
                        else
                          none
                      else
                        none)
                     (
                      cond b1274
                       (
                        if 0 ≤ v1263 ∧ v1263 < (m1258 : Nat) then
                          if (m1257 + v1263.toNat) < m1264 then
                            let x1282 : Int := ((List.getD a1265 (m1257 + v1263.toNat) []).tail.tail).headD 0
                            if 0 ≤ x1282 ∧ x1282 < (m1261 : Nat) then
                              if (m1260 + x1282.toNat) < m1266 then
                                (g74l0 (g43 q) m1257 m1258 m1259 m1260 m1261 m1262 m1264 a1265 m1266 k1286 m) (IntKind.wrap .i64 (v1263 - (1 : Int))) (List.set a1267 (m1260 + x1282.toNat) true)
                              else
                                none
                            else
                              none
                          else
                            none
                        else
                          none)
                       (
                        (g74l0 (g43 q) m1257 m1258 m1259 m1260 m1261 m1262 m1264 a1265 m1266 k1286 m) (IntKind.wrap .i64 (v1263 - (1 : Int))) a1267)))
              else
                none
            else
              none)
        else
          none
      else
        none)
     (
      k1286 a1267) := by kernel_rfl
theorem g74l0_z {α : Type} (q : Nat) (m1257 : Nat) (m1258 : Nat) (m1259 : Nat) (m1260 : Nat) (m1261 : Nat) (m1262 : Nat) (m1264 : Nat) (a1265 : List (List Int)) (m1266 : Nat) (k1286 : (List Bool) → Option α) (v1263 : Int) (a1267 : List Bool) : g74l0 (g43 q) m1257 m1258 m1259 m1260 m1261 m1262 m1264 a1265 m1266 k1286 0 v1263 a1267 = none := by kernel_rfl
theorem g74_o {α : Type} (m : Nat) (m1249 : Nat) (m1250 : Nat) (m1251 : Nat) (p1252 : Int) (m1253 : Nat) (u1254 : List (List Int)) (k1289 : (List Bool) → Option α) : g74 m m1249 m1250 m1251 p1252 m1253 u1254 k1289 =
    if ((m1250 : Nat) : Int) = ((m1250 : Nat) : Int) ∧ 0 ≤ ((m1250 : Nat) : Int) ∧ ((m1250 : Nat) : Int) ≤ 1048576 then
      if 0 ≤ p1252 ∧ p1252 < (m1250 : Nat) then
        if (0 + p1252.toNat) < m1250 then
          g74l0 (g43 m) m1249 m1250 m1251 0 m1250 m1250 m1253 u1254 m1250
            (fun l1288 =>
              k1289 l1288)
            m p1252 (List.set (List.replicate m1250 false) (0 + p1252.toNat) true)
        else
          none
      else
        none
    else
      none := by kernel_rfl

theorem g27l0_s {α : Type} (m1291 : Nat) (m1292 : Nat) (m1293 : Nat) (v1294 : Int) (m1296 : Nat) (a1297 : List (List Int)) (m1299 : Nat) (a1300 : List Bool) (k1306 : (List Int) → Option α) (m : Nat) (v1295 : Int) (a1298 : List Int) : g27l0 m1291 m1292 m1293 v1294 m1296 a1297 m1299 a1300 k1306 (m + 1) v1295 a1298 =
    cond (decide (v1295 < v1294))
     (
      if 0 ≤ v1295 ∧ v1295 < (m1292 : Nat) then
        if (m1291 + v1295.toNat) < m1299 then
          cond (List.getD a1300 (m1291 + v1295.toNat) false)
           (
            if a1298.length + 1 ≤ 67108864 then
              (g27l0 m1291 m1292 m1293 v1294 m1296 a1297 m1299 a1300 k1306 m) (IntKind.wrap .i64 (v1295 + (1 : Int))) (a1298 ++ [v1295])
            else
              none)
           (
            (g27l0 m1291 m1292 m1293 v1294 m1296 a1297 m1299 a1300 k1306 m) (IntKind.wrap .i64 (v1295 + (1 : Int))) a1298)
        else
          none
      else
        none)
     (
      k1306 a1298) := by kernel_rfl
theorem g27l0_z {α : Type} (m1291 : Nat) (m1292 : Nat) (m1293 : Nat) (v1294 : Int) (m1296 : Nat) (a1297 : List (List Int)) (m1299 : Nat) (a1300 : List Bool) (k1306 : (List Int) → Option α) (v1295 : Int) (a1298 : List Int) : g27l0 m1291 m1292 m1293 v1294 m1296 a1297 m1299 a1300 k1306 0 v1295 a1298 = none := by kernel_rfl
theorem g27_o {α : Type} (m : Nat) (m1186 : Nat) (m1187 : Nat) (m1188 : Nat) (p1189 : Int) (m1190 : Nat) (u1191 : List (List Int)) (k1311 : Int → Option α) (k1312 : (List Int) → Option α) : g27 m m1186 m1187 m1188 p1189 m1190 u1191 k1311 k1312 =
    (g73 m) m1186 m1187 m1188 (0 : Int) (0 : Int) 0 1 1 m1190 u1191 [p1189]
      (fun x1247 =>
        cond (x1247 != (0 : Int))
         (
          k1311 x1247)
         (
          (g74 m) m1186 m1187 m1188 p1189 m1190 u1191
            (fun l1290 =>
              g27l0 0 m1187 m1187 ((m1187 : Nat) : Int) m1190 u1191 m1187 l1290
                (fun l1308 =>
                  k1312 l1308)
                m (0 : Int) [])))
      (
        (g74 m) m1186 m1187 m1188 p1189 m1190 u1191
          (fun l1309 =>
            g27l0 0 m1187 m1187 ((m1187 : Nat) : Int) m1190 u1191 m1187 l1309
              (fun l1310 =>
                k1312 l1310)
              m (0 : Int) [])) := by kernel_rfl

theorem g28v4l0_s {α : Type} (a1336 : List Int) (a1337 : List Int) (k1343 : Option α) (k1344 : Option α) (m : Nat) (v1335 : Int) : g28v4l0 a1336 a1337 k1343 k1344 (m + 1) v1335 =
    cond (decide (v1335 < ((a1336.length : Nat) : Int)))
     (
      if 0 ≤ v1335 ∧ v1335 < (a1336.length : Nat) then
        if v1335.toNat < a1336.length then
          if 0 ≤ v1335 ∧ v1335 < (a1337.length : Nat) then
            if v1335.toNat < a1337.length then
              cond ((List.getD a1336 v1335.toNat 0) != (List.getD a1337 v1335.toNat 0))
               (
                k1343)
               (
                (g28v4l0 a1336 a1337 k1343 k1344 m) (IntKind.wrap .i64 (v1335 + (1 : Int))))
            else
              none
          else
            none
        else
          none
      else
        none)
     (
      k1344) := by kernel_rfl
theorem g28v4l0_z {α : Type} (a1336 : List Int) (a1337 : List Int) (k1343 : Option α) (k1344 : Option α) (v1335 : Int) : g28v4l0 a1336 a1337 k1343 k1344 0 v1335 = none := by kernel_rfl
theorem g28v4_o {α : Type} (m : Nat) (u1332 : List Int) (u1333 : List Int) (k1346 : Bool → Option α) : g28v4 m u1332 u1333 k1346 =
    cond (((u1332.length : Nat) : Int) != ((u1333.length : Nat) : Int))
     (
      k1346 false)
     (
      g28v4l0 u1332 u1333
        (
          k1346 false)
        (
          k1346 true)
        m (0 : Int)) := by kernel_rfl

theorem g30v2l0_s {α : Type}  (k1372 : Int → (List Int) → Option α) (m : Nat) (v1365 : Int) (v1366 : Int) (a1367 : List Int) : g30v2l0 k1372 (m + 1) v1365 v1366 a1367 =
    cond (decide (v1366 < ((a1367.length : Nat) : Int)))
     (
      if 0 ≤ v1366 ∧ v1366 < (a1367.length : Nat) then
        if v1366.toNat < a1367.length then
          (g30v2l0 k1372 m) (IntKind.wrap .i64 (v1365 + (1 : Int))) (IntKind.wrap .i64 (v1366 + (1 : Int))) (List.set a1367 (v1366.toNat) v1365)
        else
          none
      else
        none)
     (
      k1372 v1365 a1367) := by kernel_rfl
theorem g30v2l0_z {α : Type}  (k1372 : Int → (List Int) → Option α) (v1365 : Int) (v1366 : Int) (a1367 : List Int) : g30v2l0 k1372 0 v1365 v1366 a1367 = none := by kernel_rfl
theorem g30v2_o {α : Type} (m : Nat) (p1363 : Int) (u1364 : List Int) (k1376 : Int → (List Int) → Option α) : g30v2 m p1363 u1364 k1376 =
    g30v2l0
      (fun x1374 l1375 =>
        k1376 x1374 l1375)
      m p1363 (0 : Int) u1364 := by kernel_rfl

theorem g31v2l0_s {α : Type} (a1383 : List Int) (k1389 : Option α) (k1390 : Int → Option α) (m : Nat) (v1381 : Int) (v1382 : Int) : g31v2l0 a1383 k1389 k1390 (m + 1) v1381 v1382 =
    cond (decide (v1382 < ((a1383.length : Nat) : Int)))
     (
      if 0 ≤ v1382 ∧ v1382 < (a1383.length : Nat) then
        if v1382.toNat < a1383.length then
          cond ((List.getD a1383 v1382.toNat 0) != v1381)
           (
            k1389)
           (
            (g31v2l0 a1383 k1389 k1390 m) (IntKind.wrap .i64 (v1381 + (1 : Int))) (IntKind.wrap .i64 (v1382 + (1 : Int))))
        else
          none
      else
        none)
     (
      k1390 v1381) := by kernel_rfl
theorem g31v2l0_z {α : Type} (a1383 : List Int) (k1389 : Option α) (k1390 : Int → Option α) (v1381 : Int) (v1382 : Int) : g31v2l0 a1383 k1389 k1390 0 v1381 v1382 = none := by kernel_rfl
theorem g31v2_o {α : Type} (m : Nat) (p1379 : Int) (u1380 : List Int) (k1393 : Int → Option α) : g31v2 m p1379 u1380 k1393 =
    g31v2l0 u1380
      (
        k1393 (-1 : Int))
      (fun x1392 =>
        k1393 x1392)
      m p1379 (0 : Int) := by kernel_rfl

theorem g7_o {α : Type} (m : Nat) (m1083 : Nat) (m1084 : Nat) (m1085 : Nat) (p1086 : Int) (m1087 : Nat) (u1088 : List (List Int)) (k1412 : Bool → Option α) : g7 m m1083 m1084 m1085 p1086 m1087 u1088 k1412 =
    (g11 m) m1083 m1084 m1085 (1048576 : Int) m1087 u1088
      (fun x1089 =>
        cond (decide (x1089 < (0 : Int)))
         (
          k1412 true)
         (
          (g13 m) m1083 m1084 m1085 m1087 u1088
            (fun l1091 =>
              (g26 m) 0 m1084 m1084 p1086 m1084 l1091
                (fun x1183 l1184 =>
                  (g13 m) m1083 m1084 m1085 m1087 u1088
                    (fun l1185 =>
                      (g27 m) 0 m1084 m1084 p1086 m1084 l1185
                        (fun x1313 =>
                          (g28 m) l1184
                            (fun b1314 =>
                              cond (!b1314)
                               (
                                k1412 false)
                               (
                                cond (x1313 != x1183)
                                 (
                                  k1412 false)
                                 (
                                  (g13 m) m1083 m1084 m1085 m1087 u1088
                                    (fun l1317 =>
                                      (g15v1 m) 0 m1084 m1084 0 m1084 m1084 m1084 l1185 m1084 l1317
                                        (fun b1318 =>
                                          cond (!b1318)
                                           (
                                            k1412 false)
                                           (
                                            (g29 m) 0 m1084 m1084 (1 : Int) m1084 l1185
                                              (fun x1320 l1321 =>
                                                cond (decide (x1320 < (0 : Int)))
                                                 (
                                                  k1412 false)
                                                 (
                                                  (g28 m) l1184
                                                    (fun b1323 =>
                                                      cond (!b1323)
                                                       (
                                                        k1412 false)
                                                       (
                                                        cond (x1313 != x1183)
                                                         (
                                                          k1412 false)
                                                         (
                                                          (g30 m) (1 : Int)
                                                            (
                                                              (g31 m) (1 : Int)
                                                                (
                                                                  (g13 m) m1083 m1084 m1085 m1087 u1088
                                                                    (fun l1326 =>
                                                                      (g27 m) 0 m1084 m1084 p1086 m1084 l1326
                                                                        (fun x1327 =>
                                                                          (g28 m) l1184
                                                                            (fun b1328 =>
                                                                              cond (!b1328)
                                                                               (
                                                                                k1412 false)
                                                                               (
                                                                                cond (x1327 != x1183)
                                                                                 (
                                                                                  k1412 false)
                                                                                 (
                                                                                  (g31 m) (1 : Int)
                                                                                    (
                                                                                      k1412 true)))))
                                                                        (fun l1331 =>
                                                                          (g28v4 m) l1331 l1184
                                                                            (fun b1347 =>
                                                                              cond (!b1347)
                                                                               (
                                                                                k1412 false)
                                                                               (
                                                                                cond ((0 : Int) != x1183)
                                                                                 (
                                                                                  k1412 false)
                                                                                 (
                                                                                  (g31 m) (1 : Int)
                                                                                    (
                                                                                      k1412 true))))))))))))))))))))
                        (fun l1350 =>
                          (g28v4 m) l1350 l1184
                            (fun b1351 =>
                              cond (!b1351)
                               (
                                k1412 false)
                               (
                                cond ((0 : Int) != x1183)
                                 (
                                  k1412 false)
                                 (
                                  (g13 m) m1083 m1084 m1085 m1087 u1088
                                    (fun l1354 =>
                                      (g15v1 m) 0 m1084 m1084 0 m1084 m1084 m1084 l1185 m1084 l1354
                                        (fun b1355 =>
                                          cond (!b1355)
                                           (
                                            k1412 false)
                                           (
                                            (g29 m) 0 m1084 m1084 (1 : Int) m1084 l1185
                                              (fun x1357 l1358 =>
                                                cond (decide (x1357 < (0 : Int)))
                                                 (
                                                  k1412 false)
                                                 (
                                                  (g28v4 m) l1350 l1184
                                                    (fun b1360 =>
                                                      cond (!b1360)
                                                       (
                                                        k1412 false)
                                                       (
                                                        cond ((0 : Int) != x1183)
                                                         (
                                                          k1412 false)
                                                         (
                                                          (g30v2 m) (1 : Int) l1350
                                                            (fun x1377 l1378 =>
                                                              (g31v2 m) (1 : Int) l1378
                                                                (fun x1394 =>
                                                                  cond (decide (x1394 < (0 : Int)))
                                                                   (
                                                                    k1412 false)
                                                                   (
                                                                    cond (x1394 != x1377)
                                                                     (
                                                                      k1412 false)
                                                                     (
                                                                      (g13 m) m1083 m1084 m1085 m1087 u1088
                                                                        (fun l1397 =>
                                                                          (g27 m) 0 m1084 m1084 p1086 m1084 l1397
                                                                            (fun x1398 =>
                                                                              (g28 m) l1184
                                                                                (fun b1399 =>
                                                                                  cond (!b1399)
                                                                                   (
                                                                                    k1412 false)
                                                                                   (
                                                                                    cond (x1398 != x1183)
                                                                                     (
                                                                                      k1412 false)
                                                                                     (
                                                                                      (g31v2 m) (1 : Int) l1378
                                                                                        (fun x1402 =>
                                                                                          cond (decide (x1402 < (0 : Int)))
                                                                                           (
                                                                                            k1412 false)
                                                                                           (
                                                                                            cond (x1402 != x1377)
                                                                                             (
                                                                                              k1412 false)
                                                                                             (
                                                                                              k1412 true)))))))
                                                                            (fun l1405 =>
                                                                              (g28v4 m) l1405 l1184
                                                                                (fun b1406 =>
                                                                                  cond (!b1406)
                                                                                   (
                                                                                    k1412 false)
                                                                                   (
                                                                                    cond ((0 : Int) != x1183)
                                                                                     (
                                                                                      k1412 false)
                                                                                     (
                                                                                      (g31v2 m) (1 : Int) l1378
                                                                                        (fun x1409 =>
                                                                                          cond (decide (x1409 < (0 : Int)))
                                                                                           (
                                                                                            k1412 false)
                                                                                           (
                                                                                            cond (x1409 != x1377)
                                                                                             (
                                                                                              k1412 false)
                                                                                             (
                                                                                              k1412 true))))))))))))))))))))))))))))) := by kernel_rfl

theorem g37l0_s {α : Type} (q : Nat) (m1432 : Nat) (m1433 : Nat) (m1434 : Nat) (m1435 : Nat) (m1436 : Nat) (m1437 : Nat) (m1439 : Nat) (a1440 : List (List Int)) (a1441 : List Int) (m1442 : Nat) (k1458 : (List (List Int)) → Option α) (m : Nat) (v1438 : Int) (a1443 : List Int) (a1444 : List (List Int)) : g37l0 (g75v1 q) m1432 m1433 m1434 m1435 m1436 m1437 m1439 a1440 a1441 m1442 k1458 (m + 1) v1438 a1443 a1444 =
    cond (decide (v1438 < ((a1441.length : Nat) : Int)))
     (
      if 0 ≤ v1438 ∧ v1438 < (a1441.length : Nat) then
        if v1438.toNat < a1441.length then
          let x1446 : Int := List.getD a1441 v1438.toNat 0
          if 0 ≤ x1446 ∧ x1446 < (m1436 : Nat) then
            if (m1435 + x1446.toNat) < m1442 then
              let l1447 : List Int := List.set a1443 (m1435 + x1446.toNat) v1438
              if 0 ≤ v1438 ∧ v1438 < (a1441.length : Nat) then
                if v1438.toNat < a1441.length then
                  let x1448 : Int := List.getD a1441 v1438.toNat 0
                  if 0 ≤ x1448 ∧ x1448 < (m1433 : Nat) then
                    if (m1432 + x1448.toNat) < m1439 then
                      let x1449 : Int := (List.getD a1440 (m1432 + x1448.toNat) []).headD 0
                      let x1452 : Int := (List.getD a1440 (m1432 + x1448.toNat) []).tail.tail.tail.headD 0
                      let x1453 : Int := (List.getD a1440 (m1432 + x1448.toNat) []).tail.tail.tail.tail.headD 0
                      (g75v1 q) x1449 ((List.getD a1440 (m1432 + x1448.toNat) []).tail.headD 0) ((List.getD a1440 (m1432 + x1448.toNat) []).tail.tail.headD 0) x1452 x1453 m1435 m1436 m1437 m1442 l1447
                        (fun x1454 x1455 =>
                          if a1444.length + 1 ≤ 67108864 then
                            (g37l0 (g75v1 q) m1432 m1433 m1434 m1435 m1436 m1437 m1439 a1440 a1441 m1442 k1458 m) (IntKind.wrap .i64 (v1438 + (1 : Int))) l1447 (a1444 ++ [[x1449, x1454, x1455, x1452, x1453]])
                          else
                            none)
                    else
                      none
                  else
                    none
                else
                  none
              else
                none
            else
              none
          else
            none
        else
          none
      else
        none)
     (
      k1458 a1444) := by kernel_rfl
theorem g37l0_z {α : Type} (q : Nat) (m1432 : Nat) (m1433 : Nat) (m1434 : Nat) (m1435 : Nat) (m1436 : Nat) (m1437 : Nat) (m1439 : Nat) (a1440 : List (List Int)) (a1441 : List Int) (m1442 : Nat) (k1458 : (List (List Int)) → Option α) (v1438 : Int) (a1443 : List Int) (a1444 : List (List Int)) : g37l0 (g75v1 q) m1432 m1433 m1434 m1435 m1436 m1437 m1439 a1440 a1441 m1442 k1458 0 v1438 a1443 a1444 = none := by kernel_rfl
theorem g37_o {α : Type} (m : Nat) (m1422 : Nat) (m1423 : Nat) (m1424 : Nat) (p1425 : Int) (m1426 : Nat) (u1427 : List (List Int)) (k1461 : Int → (List (List Int)) → Option α) : g37 m m1422 m1423 m1424 p1425 m1426 u1427 k1461 =
    (g71 m) m1422 m1423 m1424 p1425 (0 : Int) m1426 u1427
      (fun x1428 =>
        cond (x1428 != (0 : Int))
         (
          k1461 x1428 [])
         (
          (g72 m) m1422 m1423 m1424 p1425 m1426 u1427
            (fun l1430 =>
              if ((m1423 : Nat) : Int) = ((m1423 : Nat) : Int) ∧ 0 ≤ ((m1423 : Nat) : Int) ∧ ((m1423 : Nat) : Int) ≤ 1048576 then
                g37l0 (g75v1 m) m1422 m1423 m1424 0 m1423 m1423 m1426 u1427 l1430 m1423
                  (fun l1460 =>
                    k1461 (0 : Int) l1460)
                  m (0 : Int) (List.replicate m1423 (0 : Int)) []
              else
                none))) := by kernel_rfl

theorem g80_o {α : Type} (m : Nat) (p1515 : Int) (m1516 : Nat) (m1517 : Nat) (m1518 : Nat) (m1519 : Nat) (u1520 : List Int) (k1522 : Int → Option α) : g80 m p1515 m1516 m1517 m1518 m1519 u1520 k1522 =
    if 0 ≤ p1515 ∧ p1515 < (m1517 : Nat) then
      if (m1516 + p1515.toNat) < m1519 then
        k1522 (List.getD u1520 (m1516 + p1515.toNat) 0)
      else
        none
    else
      none := by kernel_rfl

theorem g77v2_o {α : Type} (m : Nat) (p1502 : Int) (p1503 : Int) (p1504 : Int) (p1505 : Int) (p1506 : Int) (m1507 : Nat) (m1508 : Nat) (m1509 : Nat) (m1510 : Nat) (u1511 : List Int) (k1526 : Int → Int → Option α) : g77v2 m p1502 p1503 p1504 p1505 p1506 m1507 m1508 m1509 m1510 u1511 k1526 =
    (g43 m) p1502
      (fun b1512 b1513 b1514 =>
        cond b1512
         (
          (g80 m) p1503 m1507 m1508 m1509 m1510 u1511
            (fun x1523 =>
              cond b1513
               (
                (g80 m) p1504 m1507 m1508 m1509 m1510 u1511
                  (fun x1524 =>
                    k1526 x1523 x1524))
               (
                k1526 x1523 p1504)))
         (
          cond b1513
           (
            (g80 m) p1504 m1507 m1508 m1509 m1510 u1511
              (fun x1525 =>
                k1526 p1503 x1525))
           (
            k1526 p1503 p1504))) := by kernel_rfl

theorem g38l0_s {α : Type} (q : Nat) (m1475 : Nat) (m1476 : Nat) (m1477 : Nat) (m1478 : Nat) (m1479 : Nat) (m1480 : Nat) (v1481 : Int) (m1483 : Nat) (a1484 : List (List Int)) (m1486 : Nat) (m1487 : Nat) (m1488 : Nat) (m1489 : Nat) (a1490 : List Bool) (m1491 : Nat) (k1532 : (List (List Int)) → Option α) (m : Nat) (v1482 : Int) (a1485 : List (List Int)) (a1492 : List Int) : g38l0 (g77v2 q) m1475 m1476 m1477 m1478 m1479 m1480 v1481 m1483 a1484 m1486 m1487 m1488 m1489 a1490 m1491 k1532 (m + 1) v1482 a1485 a1492 =
    cond (decide (v1482 < v1481))
     (
      if 0 ≤ v1482 ∧ v1482 < (m1479 : Nat) then
        if (m1478 + v1482.toNat) < m1489 then
          cond (List.getD a1490 (m1478 + v1482.toNat) false)
           (
            if 0 ≤ v1482 ∧ v1482 < (m1487 : Nat) then
              if (m1486 + v1482.toNat) < m1491 then
                let l1496 : List Int := List.set a1492 (m1486 + v1482.toNat) (IntKind.wrap .i16 ((a1485.length : Nat) : Int))
                if 0 ≤ v1482 ∧ v1482 < (m1476 : Nat) then
                  if (m1475 + v1482.toNat) < m1483 then
                    let x1497 : Int := (List.getD a1484 (m1475 + v1482.toNat) []).headD 0
                    let x1500 : Int := (List.getD a1484 (m1475 + v1482.toNat) []).tail.tail.tail.headD 0
                    let x1501 : Int := (List.getD a1484 (m1475 + v1482.toNat) []).tail.tail.tail.tail.headD 0
                    (g77v2 q) x1497 ((List.getD a1484 (m1475 + v1482.toNat) []).tail.headD 0) ((List.getD a1484 (m1475 + v1482.toNat) []).tail.tail.headD 0) x1500 x1501 m1486 m1487 m1488 m1491 l1496
                      (fun x1527 x1528 =>
                        if a1485.length + 1 ≤ 67108864 then
                          (g38l0 (g77v2 q) m1475 m1476 m1477 m1478 m1479 m1480 v1481 m1483 a1484 m1486 m1487 m1488 m1489 a1490 m1491 k1532 m) (IntKind.wrap .i64 (v1482 + (1 : Int))) (a1485 ++ [[x1497, x1527, x1528, x1500, x1501]]) l1496
                        else
                          none)
                  else
                    none
                else
                  none
              else
                none
            else
              none)
           (
            (g38l0 (g77v2 q) m1475 m1476 m1477 m1478 m1479 m1480 v1481 m1483 a1484 m1486 m1487 m1488 m1489 a1490 m1491 k1532 m) (IntKind.wrap .i64 (v1482 + (1 : Int))) a1485 a1492)
        else
          none
      else
        none)
     (
      k1532 a1485) := by kernel_rfl
theorem g38l0_z {α : Type} (q : Nat) (m1475 : Nat) (m1476 : Nat) (m1477 : Nat) (m1478 : Nat) (m1479 : Nat) (m1480 : Nat) (v1481 : Int) (m1483 : Nat) (a1484 : List (List Int)) (m1486 : Nat) (m1487 : Nat) (m1488 : Nat) (m1489 : Nat) (a1490 : List Bool) (m1491 : Nat) (k1532 : (List (List Int)) → Option α) (v1482 : Int) (a1485 : List (List Int)) (a1492 : List Int) : g38l0 (g77v2 q) m1475 m1476 m1477 m1478 m1479 m1480 v1481 m1483 a1484 m1486 m1487 m1488 m1489 a1490 m1491 k1532 0 v1482 a1485 a1492 = none := by kernel_rfl
theorem g38_o {α : Type} (m : Nat) (m1465 : Nat) (m1466 : Nat) (m1467 : Nat) (p1468 : Int) (m1469 : Nat) (u1470 : List (List Int)) (k1538 : Int → Option α) (k1539 : (List (List Int)) → Option α) : g38 m m1465 m1466 m1467 p1468 m1469 u1470 k1538 k1539 =
    (g73 m) m1465 m1466 m1467 (0 : Int) (0 : Int) 0 1 1 m1469 u1470 [p1468]
      (fun x1471 =>
        cond (x1471 != (0 : Int))
         (
          k1538 x1471)
         (
          if ((m1466 : Nat) : Int) = ((m1466 : Nat) : Int) ∧ 0 ≤ ((m1466 : Nat) : Int) ∧ ((m1466 : Nat) : Int) ≤ 1048576 then
            (g74 m) m1465 m1466 m1467 p1468 m1469 u1470
              (fun l1474 =>
                g38l0 (g77v2 m) m1465 m1466 m1467 0 m1466 m1466 ((m1466 : Nat) : Int) m1469 u1470 0 m1466 m1466 m1466 l1474 m1466
                  (fun l1534 =>
                    k1539 l1534)
                  m (0 : Int) [] (List.replicate m1466 (0 : Int)))
          else
            none))
      (
        if ((m1466 : Nat) : Int) = ((m1466 : Nat) : Int) ∧ 0 ≤ ((m1466 : Nat) : Int) ∧ ((m1466 : Nat) : Int) ≤ 1048576 then
          (g74 m) m1465 m1466 m1467 p1468 m1469 u1470
            (fun l1536 =>
              g38l0 (g77v2 m) m1465 m1466 m1467 0 m1466 m1466 ((m1466 : Nat) : Int) m1469 u1470 0 m1466 m1466 m1466 l1536 m1466
                (fun l1537 =>
                  k1539 l1537)
                m (0 : Int) [] (List.replicate m1466 (0 : Int)))
        else
          none) := by kernel_rfl

theorem g10_o {α : Type} (m : Nat) (m1413 : Nat) (m1414 : Nat) (m1415 : Nat) (p1416 : Int) (m1417 : Nat) (u1418 : List (List Int)) (k1595 : Bool → Option α) : g10 m m1413 m1414 m1415 p1416 m1417 u1418 k1595 =
    (g11 m) m1413 m1414 m1415 (1048576 : Int) m1417 u1418
      (fun x1419 =>
        cond (decide (x1419 < (0 : Int)))
         (
          k1595 true)
         (
          (g13 m) m1413 m1414 m1415 m1417 u1418
            (fun l1421 =>
              (g37 m) 0 m1414 m1414 p1416 m1414 l1421
                (fun x1462 l1463 =>
                  (g13 m) m1413 m1414 m1415 m1417 u1418
                    (fun l1464 =>
                      (g38 m) 0 m1414 m1414 p1416 m1414 l1464
                        (fun x1540 =>
                          (g15 m) l1463
                            (fun b1541 =>
                              cond (!b1541)
                               (
                                k1595 false)
                               (
                                cond (x1540 != x1462)
                                 (
                                  k1595 false)
                                 (
                                  (g13 m) m1413 m1414 m1415 m1417 u1418
                                    (fun l1544 =>
                                      (g15v1 m) 0 m1414 m1414 0 m1414 m1414 m1414 l1464 m1414 l1544
                                        (fun b1545 =>
                                          cond (!b1545)
                                           (
                                            k1595 false)
                                           (
                                            (g29 m) 0 m1414 m1414 (1 : Int) m1414 l1464
                                              (fun x1547 l1548 =>
                                                cond (decide (x1547 < (0 : Int)))
                                                 (
                                                  k1595 false)
                                                 (
                                                  (g15 m) l1463
                                                    (fun b1550 =>
                                                      cond (!b1550)
                                                       (
                                                        k1595 false)
                                                       (
                                                        cond (x1540 != x1462)
                                                         (
                                                          k1595 false)
                                                         (
                                                          (g29v1 m) (1 : Int)
                                                            (
                                                              (g34 m) (1 : Int)
                                                                (
                                                                  (g13 m) m1413 m1414 m1415 m1417 u1418
                                                                    (fun l1553 =>
                                                                      (g38 m) 0 m1414 m1414 p1416 m1414 l1553
                                                                        (fun x1554 =>
                                                                          (g15 m) l1463
                                                                            (fun b1555 =>
                                                                              cond (!b1555)
                                                                               (
                                                                                k1595 false)
                                                                               (
                                                                                cond (x1554 != x1462)
                                                                                 (
                                                                                  k1595 false)
                                                                                 (
                                                                                  (g34 m) (1 : Int)
                                                                                    (
                                                                                      k1595 true)))))
                                                                        (fun l1558 =>
                                                                          (g15v2 m) l1558 l1463
                                                                            (fun b1559 =>
                                                                              cond (!b1559)
                                                                               (
                                                                                k1595 false)
                                                                               (
                                                                                cond ((0 : Int) != x1462)
                                                                                 (
                                                                                  k1595 false)
                                                                                 (
                                                                                  (g34 m) (1 : Int)
                                                                                    (
                                                                                      k1595 true))))))))))))))))))))
                        (fun l1562 =>
                          (g15v2 m) l1562 l1463
                            (fun b1563 =>
                              cond (!b1563)
                               (
                                k1595 false)
                               (
                                cond ((0 : Int) != x1462)
                                 (
                                  k1595 false)
                                 (
                                  (g13 m) m1413 m1414 m1415 m1417 u1418
                                    (fun l1566 =>
                                      (g15v1 m) 0 m1414 m1414 0 m1414 m1414 m1414 l1464 m1414 l1566
                                        (fun b1567 =>
                                          cond (!b1567)
                                           (
                                            k1595 false)
                                           (
                                            (g29 m) 0 m1414 m1414 (1 : Int) m1414 l1464
                                              (fun x1569 l1570 =>
                                                cond (decide (x1569 < (0 : Int)))
                                                 (
                                                  k1595 false)
                                                 (
                                                  (g15v2 m) l1562 l1463
                                                    (fun b1572 =>
                                                      cond (!b1572)
                                                       (
                                                        k1595 false)
                                                       (
                                                        cond ((0 : Int) != x1462)
                                                         (
                                                          k1595 false)
                                                         (
                                                          (g29v2 m) (1 : Int) l1562
                                                            (fun x1575 l1576 =>
                                                              (g34v1 m) (1 : Int) l1576
                                                                (fun x1577 =>
                                                                  cond (decide (x1577 < (0 : Int)))
                                                                   (
                                                                    k1595 false)
                                                                   (
                                                                    cond (x1577 != x1575)
                                                                     (
                                                                      k1595 false)
                                                                     (
                                                                      (g13 m) m1413 m1414 m1415 m1417 u1418
                                                                        (fun l1580 =>
                                                                          (g38 m) 0 m1414 m1414 p1416 m1414 l1580
                                                                            (fun x1581 =>
                                                                              (g15 m) l1463
                                                                                (fun b1582 =>
                                                                                  cond (!b1582)
                                                                                   (
                                                                                    k1595 false)
                                                                                   (
                                                                                    cond (x1581 != x1462)
                                                                                     (
                                                                                      k1595 false)
                                                                                     (
                                                                                      (g34v1 m) (1 : Int) l1576
                                                                                        (fun x1585 =>
                                                                                          cond (decide (x1585 < (0 : Int)))
                                                                                           (
                                                                                            k1595 false)
                                                                                           (
                                                                                            cond (x1585 != x1575)
                                                                                             (
                                                                                              k1595 false)
                                                                                             (
                                                                                              k1595 true)))))))
                                                                            (fun l1588 =>
                                                                              (g15v2 m) l1588 l1463
                                                                                (fun b1589 =>
                                                                                  cond (!b1589)
                                                                                   (
                                                                                    k1595 false)
                                                                                   (
                                                                                    cond ((0 : Int) != x1462)
                                                                                     (
                                                                                      k1595 false)
                                                                                     (
                                                                                      (g34v1 m) (1 : Int) l1576
                                                                                        (fun x1592 =>
                                                                                          cond (decide (x1592 < (0 : Int)))
                                                                                           (
                                                                                            k1595 false)
                                                                                           (
                                                                                            cond (x1592 != x1575)
                                                                                             (
                                                                                              k1595 false)
                                                                                             (
                                                                                              k1595 true))))))))))))))))))))))))))))) := by kernel_rfl
end Go.Proofs.Ytobejeiffgehfaa.Sx
