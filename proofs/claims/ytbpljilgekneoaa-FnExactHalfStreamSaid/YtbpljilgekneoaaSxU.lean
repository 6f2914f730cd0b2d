/- Equations that open the functions. Printed by our own sx.py. -/
import Derived.Test.YtbpljilgekneoaaSxV
namespace Go.Proofs.Ytbpljilgekneoaa.Sx
open Go
set_option linter.unusedVariables false
set_option maxRecDepth 100000
set_option linter.unusedVariables false
theorem g72_o {α : Type} (m : Nat) (m32 : Nat) (m33 : Nat) (m34 : Nat) (p35 : Int) (m36 : Nat) (u37 : List Int) (k40 : Int → Option α) : g72 m m32 m33 m34 p35 m36 u37 k40 =
    let x38 : Int := IntKind.wrap .i64 (p35 - ((m33 : Nat) : Int))
    cond (decide (x38 < (0 : Int)))
     (
      k40 (-1 : Int))
     (
      k40 x38) := by kernel_rfl

theorem g35_o {α : Type} (m : Nat) (m21 : Nat) (m22 : Nat) (m23 : Nat) (m24 : Nat) (m25 : Nat) (m26 : Nat) (p27 : Int) (m28 : Nat) (u29 : List Int) (m30 : Nat) (u31 : List Int) (k45 : Int → Option α) : g35 m m21 m22 m23 m24 m25 m26 p27 m28 u29 m30 u31 k45 =
    (g72 m) m21 m22 m23 p27 m28 u29
      (fun x41 =>
        cond (decide (x41 < (0 : Int)))
         (
          k45 (-1 : Int))
         (
          (g72 m) m24 m25 m26 x41 m30 u31
            (fun x43 =>
              cond (decide (x43 < (0 : Int)))
               (
                k45 (-1 : Int))
               (
                k45 x43)))) := by kernel_rfl

theorem g74l0_s {α : Type} (m66 : Nat) (m67 : Nat) (m68 : Nat) (m69 : Nat) (m70 : Nat) (m71 : Nat) (m73 : Nat) (a74 : List Int) (m75 : Nat) (k81 : (List Int) → Option α) (m : Nat) (v72 : Int) (a76 : List Int) : g74l0 m66 m67 m68 m69 m70 m71 m73 a74 m75 k81 (m + 1) v72 a76 =
    cond (decide (v72 < ((m67 : Nat) : Int)))
     (
      if 0 ≤ v72 ∧ v72 < (m67 : Nat) then
        if (m66 + v72.toNat) < m73 then
          if 0 ≤ v72 ∧ v72 < (m70 : Nat) then
            if (m69 + v72.toNat) < m75 then
              (g74l0 m66 m67 m68 m69 m70 m71 m73 a74 m75 k81 m) (IntKind.wrap .i64 (v72 + (1 : Int))) (List.set a76 (m69 + v72.toNat) (List.getD a74 (m66 + v72.toNat) 0))
            else
              none
          else
            none
        else
          none
      else
        none)
     (
      k81 a76) := by kernel_rfl
theorem g74l0_z {α : Type} (m66 : Nat) (m67 : Nat) (m68 : Nat) (m69 : Nat) (m70 : Nat) (m71 : Nat) (m73 : Nat) (a74 : List Int) (m75 : Nat) (k81 : (List Int) → Option α) (v72 : Int) (a76 : List Int) : g74l0 m66 m67 m68 m69 m70 m71 m73 a74 m75 k81 0 v72 a76 = none := by kernel_rfl
theorem g74_o {α : Type} (m : Nat) (m60 : Nat) (m61 : Nat) (m62 : Nat) (m63 : Nat) (u64 : List Int) (k84 : (List Int) → Option α) : g74 m m60 m61 m62 m63 u64 k84 =
    if ((m61 : Nat) : Int) = ((m61 : Nat) : Int) ∧ 0 ≤ ((m61 : Nat) : Int) ∧ ((m61 : Nat) : Int) ≤ 1048576 then
      g74l0 m60 m61 m62 0 m61 m61 m63 u64 m61
        (fun l83 =>
          k84 l83)
        m (0 : Int) (List.replicate m61 (0 : Int))
    else
      none := by kernel_rfl

theorem g37_o {α : Type} (m : Nat) (m50 : Nat) (m51 : Nat) (m52 : Nat) (m53 : Nat) (m54 : Nat) (m55 : Nat) (m56 : Nat) (u57 : List Int) (m58 : Nat) (u59 : List Int) (k87 : (List Int) → (List Int) → Option α) : g37 m m50 m51 m52 m53 m54 m55 m56 u57 m58 u59 k87 =
    (g74 m) m50 m51 m52 m56 u57
      (fun l85 =>
        (g74 m) m53 m54 m55 m58 u59
          (fun l86 =>
            k87 l85 l86)) := by kernel_rfl

theorem g86l0_s {α : Type} (m143 : Nat) (m144 : Nat) (m145 : Nat) (m146 : Nat) (m147 : Nat) (m148 : Nat) (m150 : Nat) (a151 : List Int) (m152 : Nat) (a153 : List Int) (k159 : Option α) (k160 : Option α) (m : Nat) (v149 : Int) : g86l0 m143 m144 m145 m146 m147 m148 m150 a151 m152 a153 k159 k160 (m + 1) v149 =
    cond (decide (v149 < ((m144 : Nat) : Int)))
     (
      if 0 ≤ v149 ∧ v149 < (m144 : Nat) then
        if (m143 + v149.toNat) < m150 then
          if 0 ≤ v149 ∧ v149 < (m147 : Nat) then
            if (m146 + v149.toNat) < m152 then
              cond ((List.getD a151 (m143 + v149.toNat) 0) != (List.getD a153 (m146 + v149.toNat) 0))
               (
                k159)
               (
                (g86l0 m143 m144 m145 m146 m147 m148 m150 a151 m152 a153 k159 k160 m) (IntKind.wrap .i64 (v149 + (1 : Int))))
            else
              none
          else
            none
        else
          none
      else
        none)
     (
      k160) := by kernel_rfl
theorem g86l0_z {α : Type} (m143 : Nat) (m144 : Nat) (m145 : Nat) (m146 : Nat) (m147 : Nat) (m148 : Nat) (m150 : Nat) (a151 : List Int) (m152 : Nat) (a153 : List Int) (k159 : Option α) (k160 : Option α) (v149 : Int) : g86l0 m143 m144 m145 m146 m147 m148 m150 a151 m152 a153 k159 k160 0 v149 = none := by kernel_rfl
theorem g86_o {α : Type} (m : Nat) (m132 : Nat) (m133 : Nat) (m134 : Nat) (m135 : Nat) (m136 : Nat) (m137 : Nat) (m138 : Nat) (u139 : List Int) (m140 : Nat) (u141 : List Int) (k162 : Bool → Option α) : g86 m m132 m133 m134 m135 m136 m137 m138 u139 m140 u141 k162 =
    cond (((m133 : Nat) : Int) != ((m136 : Nat) : Int))
     (
      k162 false)
     (
      g86l0 m132 m133 m134 m135 m136 m137 m138 u139 m140 u141
        (
          k162 false)
        (
          k162 true)
        m (0 : Int)) := by kernel_rfl

theorem g73_o {α : Type} (m : Nat) (m112 : Nat) (m113 : Nat) (m114 : Nat) (m115 : Nat) (m116 : Nat) (m117 : Nat) (m118 : Nat) (m119 : Nat) (m120 : Nat) (m121 : Nat) (m122 : Nat) (m123 : Nat) (m124 : Nat) (u125 : List Int) (m126 : Nat) (u127 : List Int) (m128 : Nat) (u129 : List Int) (m130 : Nat) (u131 : List Int) (k165 : Bool → Option α) : g73 m m112 m113 m114 m115 m116 m117 m118 m119 m120 m121 m122 m123 m124 u125 m126 u127 m128 u129 m130 u131 k165 =
    (g86 m) m112 m113 m114 m118 m119 m120 m124 u125 m128 u129
      (fun b163 =>
        cond b163
         (
          (g86 m) m115 m116 m117 m121 m122 m123 m126 u127 m130 u131
            (fun b164 =>
              k165 b164))
         (
          k165 false)) := by kernel_rfl

theorem g36_o {α : Type} (m : Nat) (m92 : Nat) (m93 : Nat) (m94 : Nat) (m95 : Nat) (m96 : Nat) (m97 : Nat) (m98 : Nat) (m99 : Nat) (m100 : Nat) (m101 : Nat) (m102 : Nat) (m103 : Nat) (m104 : Nat) (u105 : List Int) (m106 : Nat) (u107 : List Int) (m108 : Nat) (u109 : List Int) (m110 : Nat) (u111 : List Int) (k167 : Bool → Option α) : g36 m m92 m93 m94 m95 m96 m97 m98 m99 m100 m101 m102 m103 m104 u105 m106 u107 m108 u109 m110 u111 k167 =
    (g73 m) m92 m93 m94 m95 m96 m97 m98 m99 m100 m101 m102 m103 m104 u105 m106 u107 m108 u109 m110 u111
      (fun b166 =>
        k167 b166) := by kernel_rfl

theorem g75l0_s {α : Type} (m204 : Nat) (m205 : Nat) (m206 : Nat) (m207 : Nat) (m208 : Nat) (m209 : Nat) (v210 : Int) (m212 : Nat) (a213 : List Int) (m214 : Nat) (a215 : List Int) (k221 : Option α) (k222 : Option α) (m : Nat) (v211 : Int) : g75l0 m204 m205 m206 m207 m208 m209 v210 m212 a213 m214 a215 k221 k222 (m + 1) v211 =
    cond (decide (v211 < v210))
     (
      if 0 ≤ v211 ∧ v211 < (m205 : Nat) then
        if (m204 + v211.toNat) < m212 then
          if 0 ≤ v211 ∧ v211 < (m208 : Nat) then
            if (m207 + v211.toNat) < m214 then
              cond ((List.getD a213 (m204 + v211.toNat) 0) != (List.getD a215 (m207 + v211.toNat) 0))
               (
                k221)
               (
                (g75l0 m204 m205 m206 m207 m208 m209 v210 m212 a213 m214 a215 k221 k222 m) (IntKind.wrap .i64 (v211 + (1 : Int))))
            else
              none
          else
            none
        else
          none
      else
        none)
     (
      k222) := by kernel_rfl
theorem g75l0_z {α : Type} (m204 : Nat) (m205 : Nat) (m206 : Nat) (m207 : Nat) (m208 : Nat) (m209 : Nat) (v210 : Int) (m212 : Nat) (a213 : List Int) (m214 : Nat) (a215 : List Int) (k221 : Option α) (k222 : Option α) (v211 : Int) : g75l0 m204 m205 m206 m207 m208 m209 v210 m212 a213 m214 a215 k221 k222 0 v211 = none := by kernel_rfl
theorem g75_o {α : Type} (m : Nat) (m193 : Nat) (m194 : Nat) (m195 : Nat) (m196 : Nat) (m197 : Nat) (m198 : Nat) (m199 : Nat) (u200 : List Int) (m201 : Nat) (u202 : List Int) (k224 : Bool → Option α) : g75 m m193 m194 m195 m196 m197 m198 m199 u200 m201 u202 k224 =
    cond (((m194 : Nat) : Int) != ((m197 : Nat) : Int))
     (
      k224 false)
     (
      g75l0 m193 m194 m195 m196 m197 m198 ((m194 : Nat) : Int) m199 u200 m201 u202
        (
          k224 false)
        (
          k224 true)
        m (0 : Int)) := by kernel_rfl

theorem g38_o {α : Type} (m : Nat) (m173 : Nat) (m174 : Nat) (m175 : Nat) (m176 : Nat) (m177 : Nat) (m178 : Nat) (m179 : Nat) (m180 : Nat) (m181 : Nat) (m182 : Nat) (m183 : Nat) (m184 : Nat) (m185 : Nat) (u186 : List Int) (m187 : Nat) (u188 : List Int) (m189 : Nat) (u190 : List Int) (m191 : Nat) (u192 : List Int) (k227 : Bool → Option α) : g38 m m173 m174 m175 m176 m177 m178 m179 m180 m181 m182 m183 m184 m185 u186 m187 u188 m189 u190 m191 u192 k227 =
    (g75 m) m173 m174 m175 m179 m180 m181 m185 u186 m189 u190
      (fun b225 =>
        cond b225
         (
          (g75 m) m176 m177 m178 m182 m183 m184 m187 u188 m191 u192
            (fun b226 =>
              k227 b226))
         (
          k227 false)) := by kernel_rfl

theorem g54l0_s {α : Type} (m263 : Nat) (m264 : Nat) (m265 : Nat) (m266 : Nat) (m267 : Nat) (m268 : Nat) (m270 : Nat) (a271 : List Int) (m272 : Nat) (a273 : List Int) (k279 : Option α) (k280 : Option α) (m : Nat) (v269 : Int) : g54l0 m263 m264 m265 m266 m267 m268 m270 a271 m272 a273 k279 k280 (m + 1) v269 =
    cond (decide (v269 < ((m264 : Nat) : Int)))
     (
      if 0 ≤ v269 ∧ v269 < (m264 : Nat) then
        if (m263 + v269.toNat) < m270 then
          if 0 ≤ v269 ∧ v269 < (m267 : Nat) then
            if (m266 + v269.toNat) < m272 then
              cond ((List.getD a271 (m263 + v269.toNat) 0) != (List.getD a273 (m266 + v269.toNat) 0))
               (
                k279)
               (
                (g54l0 m263 m264 m265 m266 m267 m268 m270 a271 m272 a273 k279 k280 m) (IntKind.wrap .i64 (v269 + (1 : Int))))
            else
              none
          else
            none
        else
          none
      else
        none)
     (
      k280) := by kernel_rfl
theorem g54l0_z {α : Type} (m263 : Nat) (m264 : Nat) (m265 : Nat) (m266 : Nat) (m267 : Nat) (m268 : Nat) (m270 : Nat) (a271 : List Int) (m272 : Nat) (a273 : List Int) (k279 : Option α) (k280 : Option α) (v269 : Int) : g54l0 m263 m264 m265 m266 m267 m268 m270 a271 m272 a273 k279 k280 0 v269 = none := by kernel_rfl
theorem g54_o {α : Type} (m : Nat) (m252 : Nat) (m253 : Nat) (m254 : Nat) (m255 : Nat) (m256 : Nat) (m257 : Nat) (m258 : Nat) (u259 : List Int) (m260 : Nat) (u261 : List Int) (k282 : Bool → Option α) : g54 m m252 m253 m254 m255 m256 m257 m258 u259 m260 u261 k282 =
    cond (((m253 : Nat) : Int) != ((m256 : Nat) : Int))
     (
      k282 false)
     (
      g54l0 m252 m253 m254 m255 m256 m257 m258 u259 m260 u261
        (
          k282 false)
        (
          k282 true)
        m (0 : Int)) := by kernel_rfl

theorem g39_o {α : Type} (m : Nat) (m232 : Nat) (m233 : Nat) (m234 : Nat) (m235 : Nat) (m236 : Nat) (m237 : Nat) (m238 : Nat) (m239 : Nat) (m240 : Nat) (m241 : Nat) (m242 : Nat) (m243 : Nat) (m244 : Nat) (u245 : List Int) (m246 : Nat) (u247 : List Int) (m248 : Nat) (u249 : List Int) (m250 : Nat) (u251 : List Int) (k287 : Bool → Option α) : g39 m m232 m233 m234 m235 m236 m237 m238 m239 m240 m241 m242 m243 m244 u245 m246 u247 m248 u249 m250 u251 k287 =
    (g54 m) m232 m233 m234 m238 m239 m240 m244 u245 m248 u249
      (fun b283 =>
        cond (!b283)
         (
          k287 false)
         (
          (g54 m) m235 m236 m237 m241 m242 m243 m246 u247 m250 u251
            (fun b285 =>
              cond (!b285)
               (
                k287 false)
               (
                k287 true)))) := by kernel_rfl

theorem g10_o {α : Type} (m : Nat) (m1 : Nat) (m2 : Nat) (m3 : Nat) (m4 : Nat) (m5 : Nat) (m6 : Nat) (m7 : Nat) (m8 : Nat) (m9 : Nat) (m10 : Nat) (m11 : Nat) (m12 : Nat) (m13 : Nat) (u14 : List Int) (m15 : Nat) (u16 : List Int) (m17 : Nat) (u18 : List Int) (m19 : Nat) (u20 : List Int) (k294 : Bool → Option α) : g10 m m1 m2 m3 m4 m5 m6 m7 m8 m9 m10 m11 m12 m13 u14 m15 u16 m17 u18 m19 u20 k294 =
    (g35 m) m1 m2 m3 m4 m5 m6 (1048576 : Int) m13 u14 m15 u16
      (fun x46 =>
        cond (decide (x46 < (0 : Int)))
         (
          k294 true)
         (
          (g35 m) m7 m8 m9 m10 m11 m12 x46 m17 u18 m19 u20
            (fun x48 =>
              cond (decide (x48 < (0 : Int)))
               (
                k294 true)
               (
                (g37 m) m1 m2 m3 m4 m5 m6 m13 u14 m15 u16
                  (fun l88 l89 =>
                    (g37 m) m7 m8 m9 m10 m11 m12 m17 u18 m19 u20
                      (fun l90 l91 =>
                        (g36 m) 0 m2 m2 0 m5 m5 0 m8 m8 0 m11 m11 m2 l88 m5 l89 m8 l90 m11 l91
                          (fun b168 =>
                            (g37 m) m1 m2 m3 m4 m5 m6 m13 u14 m15 u16
                              (fun l169 l170 =>
                                (g37 m) m7 m8 m9 m10 m11 m12 m17 u18 m19 u20
                                  (fun l171 l172 =>
                                    (g38 m) 0 m2 m2 0 m5 m5 0 m8 m8 0 m11 m11 m2 l169 m5 l170 m8 l171 m11 l172
                                      (fun b228 =>
                                        cond (!(b228 == b168))
                                         (
                                          k294 false)
                                         (
                                          (g37 m) m1 m2 m3 m4 m5 m6 m13 u14 m15 u16
                                            (fun l230 l231 =>
                                              (g39 m) 0 m2 m2 0 m5 m5 0 m2 m2 0 m5 m5 m2 l169 m5 l170 m2 l230 m5 l231
                                                (fun b288 =>
                                                  cond (!b288)
                                                   (
                                                    k294 false)
                                                   (
                                                    (g37 m) m7 m8 m9 m10 m11 m12 m17 u18 m19 u20
                                                      (fun l290 l291 =>
                                                        (g39 m) 0 m8 m8 0 m11 m11 0 m8 m8 0 m11 m11 m8 l171 m11 l172 m8 l290 m11 l291
                                                          (fun b292 =>
                                                            cond (!b292)
                                                             (
                                                              k294 false)
                                                             (
                                                              k294 true))))))))))))))))) := by kernel_rfl

theorem g63_o {α : Type} (m : Nat) (p330 : Int) (p331 : Int) (p332 : Int) (k335 : Bool → Option α) : g63 m p330 p331 p332 k335 =
    cond (decide (p330 ≥ p331))
     (
      k335 (decide (p330 ≤ p332)))
     (
      k335 false) := by kernel_rfl

theorem g87l0_s {α : Type} (m342 : Nat) (m343 : Nat) (m344 : Nat) (m346 : Nat) (a347 : List Int) (k354 : Option α) (k355 : Option α) (m : Nat) (v345 : Int) : g87l0 m342 m343 m344 m346 a347 k354 k355 (m + 1) v345 =
    cond (decide (v345 < ((m343 : Nat) : Int)))
     (
      if 0 ≤ v345 ∧ v345 < (m343 : Nat) then
        if (m342 + v345.toNat) < m346 then
          cond (decide ((List.getD a347 (m342 + v345.toNat) 0) < (-1 : Int)))
           (
            k354)
           (
            if 0 ≤ v345 ∧ v345 < (m343 : Nat) then
              if (m342 + v345.toNat) < m346 then
                cond (decide ((List.getD a347 (m342 + v345.toNat) 0) > (1 : Int)))
                 (
                  k354)
                 (
                  (g87l0 m342 m343 m344 m346 a347 k354 k355 m) (IntKind.wrap .i64 (v345 + (1 : Int))))
              else
                none
            else
              none)
        else
          none
      else
        none)
     (
      k355) := by kernel_rfl
theorem g87l0_z {α : Type} (m342 : Nat) (m343 : Nat) (m344 : Nat) (m346 : Nat) (a347 : List Int) (k354 : Option α) (k355 : Option α) (v345 : Int) : g87l0 m342 m343 m344 m346 a347 k354 k355 0 v345 = none := by kernel_rfl
theorem g87_o {α : Type} (m : Nat) (m337 : Nat) (m338 : Nat) (m339 : Nat) (m340 : Nat) (u341 : List Int) (k357 : Bool → Option α) : g87 m m337 m338 m339 m340 u341 k357 =
    g87l0 m337 m338 m339 m340 u341
      (
        k357 false)
      (
        k357 true)
      m (0 : Int) := by kernel_rfl

theorem g76_o {α : Type} (m : Nat) (m319 : Nat) (m320 : Nat) (m321 : Nat) (m322 : Nat) (m323 : Nat) (m324 : Nat) (m325 : Nat) (u326 : List Int) (m327 : Nat) (u328 : List Int) (k360 : Bool → Option α) : g76 m m319 m320 m321 m322 m323 m324 m325 u326 m327 u328 k360 =
    cond (decide (((m320 : Nat) : Int) ≤ (16 : Int)))
     (
      (g63 m) ((m323 : Nat) : Int) (1 : Int) (14 : Int)
        (fun b336 =>
          cond b336
           (
            (g87 m) m319 m320 m321 m325 u326
              (fun b358 =>
                cond b358
                 (
                  (g87 m) m322 m323 m324 m327 u328
                    (fun b359 =>
                      k360 b359))
                 (
                  k360 false)))
           (
            k360 false)))
     (
      k360 false) := by kernel_rfl

theorem g40_o {α : Type} (m : Nat) (m309 : Nat) (m310 : Nat) (m311 : Nat) (m312 : Nat) (m313 : Nat) (m314 : Nat) (m315 : Nat) (u316 : List Int) (m317 : Nat) (u318 : List Int) (k362 : Bool → Option α) : g40 m m309 m310 m311 m312 m313 m314 m315 u316 m317 u318 k362 =
    (g76 m) m309 m310 m311 m312 m313 m314 m315 u316 m317 u318
      (fun b361 =>
        k362 b361) := by kernel_rfl

theorem g90_o {α : Type} (m : Nat) (p404 : Int) (k407 : Bool → Option α) : g90 m p404 k407 =
    cond (decide (p404 ≥ (-1 : Int)))
     (
      k407 (decide (p404 ≤ (1 : Int))))
     (
      k407 false) := by kernel_rfl

theorem g89_o {α : Type} (m : Nat) (p403 : Int) (k410 : Bool → Option α) : g89 m p403 k410 =
    (g90 m) p403
      (fun b408 =>
        k410 (!b408)) := by kernel_rfl

theorem g91l0_s {α : Type} (q : Nat) (m394 : Nat) (m395 : Nat) (m396 : Nat) (v397 : Int) (m399 : Nat) (a400 : List Int) (k413 : Int → Option α) (k414 : Option α) (m : Nat) (v398 : Int) : g91l0 (g89 q) m394 m395 m396 v397 m399 a400 k413 k414 (m + 1) v398 =
    cond (decide (v398 < v397))
     (
      if 0 ≤ v398 ∧ v398 < (m395 : Nat) then
        if (m394 + v398.toNat) < m399 then
          (g89 q) (List.getD a400 (m394 + v398.toNat) 0)
            (fun b411 =>
              cond b411
               (
                k413 v398)
               (
                (g91l0 (g89 q) m394 m395 m396 v397 m399 a400 k413 k414 m) (IntKind.wrap .i64 (v398 + (1 : Int)))))
        else
          none
      else
        none)
     (
      k414) := by kernel_rfl
theorem g91l0_z {α : Type} (q : Nat) (m394 : Nat) (m395 : Nat) (m396 : Nat) (v397 : Int) (m399 : Nat) (a400 : List Int) (k413 : Int → Option α) (k414 : Option α) (v398 : Int) : g91l0 (g89 q) m394 m395 m396 v397 m399 a400 k413 k414 0 v398 = none := by kernel_rfl
theorem g91_o {α : Type} (m : Nat) (m389 : Nat) (m390 : Nat) (m391 : Nat) (m392 : Nat) (u393 : List Int) (k417 : Int → Option α) : g91 m m389 m390 m391 m392 u393 k417 =
    g91l0 (g89 m) m389 m390 m391 ((m390 : Nat) : Int) m392 u393
      (fun x416 =>
        k417 x416)
      (
        k417 (-1 : Int))
      m (0 : Int) := by kernel_rfl

theorem g88_o {α : Type} (m : Nat) (m384 : Nat) (m385 : Nat) (m386 : Nat) (m387 : Nat) (u388 : List Int) (k420 : Bool → Option α) : g88 m m384 m385 m386 m387 u388 k420 =
    (g91 m) m384 m385 m386 m387 u388
      (fun x418 =>
        k420 (decide (x418 ≥ (0 : Int)))) := by kernel_rfl

theorem g77_o {α : Type} (m : Nat) (m379 : Nat) (m380 : Nat) (m381 : Nat) (m382 : Nat) (u383 : List Int) (k423 : Bool → Option α) : g77 m m379 m380 m381 m382 u383 k423 =
    (g88 m) m379 m380 m381 m382 u383
      (fun b421 =>
        k423 (!b421)) := by kernel_rfl

theorem g41_o {α : Type} (m : Nat) (m366 : Nat) (m367 : Nat) (m368 : Nat) (m369 : Nat) (m370 : Nat) (m371 : Nat) (m372 : Nat) (u373 : List Int) (m374 : Nat) (u375 : List Int) (k426 : Bool → Option α) : g41 m m366 m367 m368 m369 m370 m371 m372 u373 m374 u375 k426 =
    cond (decide (((m367 : Nat) : Int) ≤ (16 : Int)))
     (
      cond (decide (((m370 : Nat) : Int) ≥ (1 : Int)))
       (
        cond (decide (((m370 : Nat) : Int) ≤ (14 : Int)))
         (
          (g77 m) m366 m367 m368 m372 u373
            (fun b424 =>
              cond b424
               (
                (g77 m) m369 m370 m371 m374 u375
                  (fun b425 =>
                    k426 b425))
               (
                k426 false)))
         (
          k426 false))
       (
        k426 false))
     (
      k426 false) := by kernel_rfl

theorem g11_o {α : Type} (m : Nat) (m295 : Nat) (m296 : Nat) (m297 : Nat) (m298 : Nat) (m299 : Nat) (m300 : Nat) (m301 : Nat) (u302 : List Int) (m303 : Nat) (u304 : List Int) (k433 : Bool → Option α) : g11 m m295 m296 m297 m298 m299 m300 m301 u302 m303 u304 k433 =
    (g35 m) m295 m296 m297 m298 m299 m300 (1048576 : Int) m301 u302 m303 u304
      (fun x305 =>
        cond (decide (x305 < (0 : Int)))
         (
          k433 true)
         (
          (g37 m) m295 m296 m297 m298 m299 m300 m301 u302 m303 u304
            (fun l307 l308 =>
              (g40 m) 0 m296 m296 0 m299 m299 m296 l307 m299 l308
                (fun b363 =>
                  (g37 m) m295 m296 m297 m298 m299 m300 m301 u302 m303 u304
                    (fun l364 l365 =>
                      (g41 m) 0 m296 m296 0 m299 m299 m296 l364 m299 l365
                        (fun b427 =>
                          cond (!(b427 == b363))
                           (
                            k433 false)
                           (
                            (g37 m) m295 m296 m297 m298 m299 m300 m301 u302 m303 u304
                              (fun l429 l430 =>
                                (g39 m) 0 m296 m296 0 m299 m299 0 m296 m296 0 m299 m299 m296 l364 m299 l365 m296 l429 m299 l430
                                  (fun b431 =>
                                    cond (!b431)
                                     (
                                      k433 false)
                                     (
                                      k433 true)))))))))) := by kernel_rfl

theorem g78l0_s {α : Type} (m465 : Nat) (m466 : Nat) (m467 : Nat) (m469 : Nat) (a470 : List Int) (k478 : (List Int) → Option α) (m : Nat) (v468 : Int) (a471 : List Int) : g78l0 m465 m466 m467 m469 a470 k478 (m + 1) v468 a471 =
    cond (decide (v468 < ((m466 : Nat) : Int)))
     (
      if 0 ≤ v468 ∧ v468 < (m466 : Nat) then
        if (m465 + v468.toNat) < m469 then
          let x474 : Int := IntKind.wrap .i8 ((List.getD a470 (m465 + v468.toNat) 0) + (1 : Int))
          if 0 ≤ x474 ∧ x474 < (⟨#[45, 48, 43]⟩ : ByteArray).size then
            if a471.length + 1 ≤ 67108864 then
              (g78l0 m465 m466 m467 m469 a470 k478 m) (IntKind.wrap .i64 (v468 + (1 : Int))) (a471 ++ [(byteAt (⟨#[45, 48, 43]⟩ : ByteArray) x474.toNat)])
            else
              none
          else
            none
        else
          none
      else
        none)
     (
      k478 a471) := by kernel_rfl
theorem g78l0_z {α : Type} (m465 : Nat) (m466 : Nat) (m467 : Nat) (m469 : Nat) (a470 : List Int) (k478 : (List Int) → Option α) (v468 : Int) (a471 : List Int) : g78l0 m465 m466 m467 m469 a470 k478 0 v468 a471 = none := by kernel_rfl
theorem g78_o {α : Type} (m : Nat) (m460 : Nat) (m461 : Nat) (m462 : Nat) (m463 : Nat) (u464 : List Int) (k482 : ByteArray → Option α) : g78 m m460 m461 m462 m463 u464 k482 =
    g78l0 m460 m461 m462 m463 u464
      (fun l480 =>
        k482 (bytesS l480))
      m (0 : Int) [] := by kernel_rfl

theorem g42_o {α : Type} (m : Nat) (m448 : Nat) (m449 : Nat) (m450 : Nat) (m451 : Nat) (m452 : Nat) (m453 : Nat) (m454 : Nat) (u455 : List Int) (m456 : Nat) (u457 : List Int) (k487 : ByteArray → Option α) : g42 m m448 m449 m450 m451 m452 m453 m454 u455 m456 u457 k487 =
    (g76 m) m448 m449 m450 m451 m452 m453 m454 u455 m456 u457
      (fun b458 =>
        cond (!b458)
         (
          k487 (⟨#[]⟩ : ByteArray))
         (
          (g78 m) m448 m449 m450 m454 u455
            (fun s483 =>
              if s483.size + (⟨#[58]⟩ : ByteArray).size ≤ 9223372036854775807 then
                let s484 : ByteArray := s483 ++ (⟨#[58]⟩ : ByteArray)
                (g78 m) m451 m452 m453 m456 u457
                  (fun s485 =>
                    if s484.size + s485.size ≤ 9223372036854775807 then
                      k487 (s484 ++ s485)
                    else
                      none)
              else
                none))) := by kernel_rfl

theorem g79l0_s {α : Type} (m509 : Nat) (m510 : Nat) (m511 : Nat) (m512 : Nat) (m513 : Nat) (m514 : Nat) (v515 : Int) (m517 : Nat) (a518 : List Int) (m519 : Nat) (k527 : (List Int) → Option α) (m : Nat) (v516 : Int) (a520 : List Int) : g79l0 m509 m510 m511 m512 m513 m514 v515 m517 a518 m519 k527 (m + 1) v516 a520 =
    cond (decide (v516 < v515))
     (
      if 0 ≤ v516 ∧ v516 < (m513 : Nat) then
        if (m512 + v516.toNat) < m517 then
          let x523 : Int := IntKind.wrap .i8 ((List.getD a518 (m512 + v516.toNat) 0) + (1 : Int))
          if 0 ≤ x523 ∧ x523 < (⟨#[45, 48, 43]⟩ : ByteArray).size then
            if 0 ≤ v516 ∧ v516 < (m510 : Nat) then
              if (m509 + v516.toNat) < m519 then
                (g79l0 m509 m510 m511 m512 m513 m514 v515 m517 a518 m519 k527 m) (IntKind.wrap .i64 (v516 + (1 : Int))) (List.set a520 (m509 + v516.toNat) (byteAt (⟨#[45, 48, 43]⟩ : ByteArray) x523.toNat))
              else
                none
            else
              none
          else
            none
        else
          none
      else
        none)
     (
      k527 a520) := by kernel_rfl
theorem g79l0_z {α : Type} (m509 : Nat) (m510 : Nat) (m511 : Nat) (m512 : Nat) (m513 : Nat) (m514 : Nat) (v515 : Int) (m517 : Nat) (a518 : List Int) (m519 : Nat) (k527 : (List Int) → Option α) (v516 : Int) (a520 : List Int) : g79l0 m509 m510 m511 m512 m513 m514 v515 m517 a518 m519 k527 0 v516 a520 = none := by kernel_rfl
theorem g79_o {α : Type} (m : Nat) (m503 : Nat) (m504 : Nat) (m505 : Nat) (m506 : Nat) (u507 : List Int) (k531 : ByteArray → Option α) : g79 m m503 m504 m505 m506 u507 k531 =
    if ((m504 : Nat) : Int) = ((m504 : Nat) : Int) ∧ 0 ≤ ((m504 : Nat) : Int) ∧ ((m504 : Nat) : Int) ≤ 1048576 then
      g79l0 0 m504 m504 m503 m504 m505 ((m504 : Nat) : Int) m506 u507 m504
        (fun l529 =>
          if 0 + m504 ≤ m504 then
            k531 (bytesS (List.take m504 (List.drop 0 l529)))
          else
            none)
        m (0 : Int) (List.replicate m504 (0 : Int))
    else
      none := by kernel_rfl

theorem g43_o {α : Type} (m : Nat) (m491 : Nat) (m492 : Nat) (m493 : Nat) (m494 : Nat) (m495 : Nat) (m496 : Nat) (m497 : Nat) (u498 : List Int) (m499 : Nat) (u500 : List Int) (k536 : ByteArray → Option α) : g43 m m491 m492 m493 m494 m495 m496 m497 u498 m499 u500 k536 =
    (g41 m) m491 m492 m493 m494 m495 m496 m497 u498 m499 u500
      (fun b501 =>
        cond (!b501)
         (
          k536 (⟨#[]⟩ : ByteArray))
         (
          (g79 m) m491 m492 m493 m497 u498
            (fun s532 =>
              if s532.size + (⟨#[58]⟩ : ByteArray).size ≤ 9223372036854775807 then
                let s533 : ByteArray := s532 ++ (⟨#[58]⟩ : ByteArray)
                (g79 m) m494 m495 m496 m499 u500
                  (fun s534 =>
                    if s533.size + s534.size ≤ 9223372036854775807 then
                      k536 (s533 ++ s534)
                    else
                      none)
              else
                none))) := by kernel_rfl

theorem g12_o {α : Type} (m : Nat) (m434 : Nat) (m435 : Nat) (m436 : Nat) (m437 : Nat) (m438 : Nat) (m439 : Nat) (m440 : Nat) (u441 : List Int) (m442 : Nat) (u443 : List Int) (k543 : Bool → Option α) : g12 m m434 m435 m436 m437 m438 m439 m440 u441 m442 u443 k543 =
    (g35 m) m434 m435 m436 m437 m438 m439 (1048576 : Int) m440 u441 m442 u443
      (fun x444 =>
        cond (decide (x444 < (0 : Int)))
         (
          k543 true)
         (
          (g37 m) m434 m435 m436 m437 m438 m439 m440 u441 m442 u443
            (fun l446 l447 =>
              (g42 m) 0 m435 m435 0 m438 m438 m435 l446 m438 l447
                (fun s488 =>
                  (g37 m) m434 m435 m436 m437 m438 m439 m440 u441 m442 u443
                    (fun l489 l490 =>
                      (g43 m) 0 m435 m435 0 m438 m438 m435 l489 m438 l490
                        (fun s537 =>
                          cond (!bytesEq s537 s488)
                           (
                            k543 false)
                           (
                            (g37 m) m434 m435 m436 m437 m438 m439 m440 u441 m442 u443
                              (fun l539 l540 =>
                                (g39 m) 0 m435 m435 0 m438 m438 0 m435 m435 0 m438 m438 m435 l489 m438 l490 m435 l539 m438 l540
                                  (fun b541 =>
                                    cond (!b541)
                                     (
                                      k543 false)
                                     (
                                      k543 true)))))))))) := by kernel_rfl

theorem g80_o {α : Type} (m : Nat) (p574 : Int) (m575 : Nat) (m576 : Nat) (m577 : Nat) (m578 : Nat) (m579 : Nat) (m580 : Nat) (m581 : Nat) (u582 : List Int) (m583 : Nat) (u584 : List Int) (k590 : Int → Option α) : g80 m p574 m575 m576 m577 m578 m579 m580 m581 u582 m583 u584 k590 =
    cond (decide (p574 < ((m576 : Nat) : Int)))
     (
      if 0 ≤ p574 ∧ p574 < (m576 : Nat) then
        if (m575 + p574.toNat) < m581 then
          k590 (List.getD u582 (m575 + p574.toNat) 0)
        else
          none
      else
        none)
     (
      if ((m579 : Nat) : Int) = 0 then
        none
      else
        let x588 : Int := Int.tmod (IntKind.wrap .i64 (p574 - ((m576 : Nat) : Int))) ((m579 : Nat) : Int)
        if 0 ≤ x588 ∧ x588 < (m579 : Nat) then
          if (m578 + x588.toNat) < m583 then
            k590 (List.getD u584 (m578 + x588.toNat) 0)
          else
            none
        else
          none) := by kernel_rfl

theorem g44_o {α : Type} (m : Nat) (m559 : Nat) (m560 : Nat) (m561 : Nat) (m562 : Nat) (m563 : Nat) (m564 : Nat) (p565 : Int) (m566 : Nat) (u567 : List Int) (m568 : Nat) (u569 : List Int) (k592 : Int → Int → Option α) : g44 m m559 m560 m561 m562 m563 m564 p565 m566 u567 m568 u569 k592 =
    (g76 m) m559 m560 m561 m562 m563 m564 m566 u567 m568 u569
      (fun b570 =>
        cond (!b570)
         (
          k592 (0 : Int) (1 : Int))
         (
          (g63 m) p565 (0 : Int) (1000000000 : Int)
            (fun b572 =>
              cond (!b572)
               (
                k592 (0 : Int) (2 : Int))
               (
                (g80 m) p565 m559 m560 m561 m562 m563 m564 m566 u567 m568 u569
                  (fun x591 =>
                    k592 x591 (0 : Int)))))) := by kernel_rfl

theorem g58_o {α : Type} (m : Nat) (p610 : Int) (p611 : Int) (p612 : Int) (k615 : Bool → Option α) : g58 m p610 p611 p612 k615 =
    cond (decide (p610 ≥ p611))
     (
      k615 (decide (p610 ≤ p612)))
     (
      k615 false) := by kernel_rfl

theorem g81_o {α : Type} (m : Nat) (m618 : Nat) (m619 : Nat) (m620 : Nat) (m621 : Nat) (m622 : Nat) (m623 : Nat) (p624 : Int) (m625 : Nat) (u626 : List Int) (m627 : Nat) (u628 : List Int) (k634 : Int → Option α) : g81 m m618 m619 m620 m621 m622 m623 p624 m625 u626 m627 u628 k634 =
    cond (decide (p624 < ((m619 : Nat) : Int)))
     (
      if 0 ≤ p624 ∧ p624 < (m619 : Nat) then
        if (m618 + p624.toNat) < m625 then
          k634 (List.getD u626 (m618 + p624.toNat) 0)
        else
          none
      else
        none)
     (
      if ((m622 : Nat) : Int) = 0 then
        none
      else
        let x632 : Int := Int.tmod (IntKind.wrap .i64 (p624 - ((m619 : Nat) : Int))) ((m622 : Nat) : Int)
        if 0 ≤ x632 ∧ x632 < (m622 : Nat) then
          if (m621 + x632.toNat) < m627 then
            k634 (List.getD u628 (m621 + x632.toNat) 0)
          else
            none
        else
          none) := by kernel_rfl

theorem g45_o {α : Type} (m : Nat) (m597 : Nat) (m598 : Nat) (m599 : Nat) (m600 : Nat) (m601 : Nat) (m602 : Nat) (p603 : Int) (m604 : Nat) (u605 : List Int) (m606 : Nat) (u607 : List Int) (k636 : Int → Int → Option α) : g45 m m597 m598 m599 m600 m601 m602 p603 m604 u605 m606 u607 k636 =
    (g41 m) m597 m598 m599 m600 m601 m602 m604 u605 m606 u607
      (fun b608 =>
        cond (!b608)
         (
          k636 (0 : Int) (1 : Int))
         (
          (g58 m) p603 (0 : Int) (1000000000 : Int)
            (fun b616 =>
              cond (!b616)
               (
                k636 (0 : Int) (2 : Int))
               (
                (g81 m) m597 m598 m599 m600 m601 m602 p603 m604 u605 m606 u607
                  (fun x635 =>
                    k636 x635 (0 : Int)))))) := by kernel_rfl

theorem g13_o {α : Type} (m : Nat) (m544 : Nat) (m545 : Nat) (m546 : Nat) (m547 : Nat) (m548 : Nat) (m549 : Nat) (p550 : Int) (m551 : Nat) (u552 : List Int) (m553 : Nat) (u554 : List Int) (k645 : Bool → Option α) : g13 m m544 m545 m546 m547 m548 m549 p550 m551 u552 m553 u554 k645 =
    (g35 m) m544 m545 m546 m547 m548 m549 (1048576 : Int) m551 u552 m553 u554
      (fun x555 =>
        cond (decide (x555 < (0 : Int)))
         (
          k645 true)
         (
          (g37 m) m544 m545 m546 m547 m548 m549 m551 u552 m553 u554
            (fun l557 l558 =>
              (g44 m) 0 m545 m545 0 m548 m548 p550 m545 l557 m548 l558
                (fun x593 x594 =>
                  (g37 m) m544 m545 m546 m547 m548 m549 m551 u552 m553 u554
                    (fun l595 l596 =>
                      (g45 m) 0 m545 m545 0 m548 m548 p550 m545 l595 m548 l596
                        (fun x637 x638 =>
                          cond (x637 != x593)
                           (
                            k645 false)
                           (
                            cond (x638 != x594)
                             (
                              k645 false)
                             (
                              (g37 m) m544 m545 m546 m547 m548 m549 m551 u552 m553 u554
                                (fun l641 l642 =>
                                  (g39 m) 0 m545 m545 0 m548 m548 0 m545 m545 0 m548 m548 m545 l595 m548 l596 m545 l641 m548 l642
                                    (fun b643 =>
                                      cond (!b643)
                                       (
                                        k645 false)
                                       (
                                        k645 true))))))))))) := by kernel_rfl

theorem g82l0_s {α : Type} (m677 : Nat) (m678 : Nat) (m679 : Nat) (m681 : Nat) (a682 : List Int) (k689 : (List Int) → Option α) (m : Nat) (v680 : Int) (a683 : List Int) : g82l0 m677 m678 m679 m681 a682 k689 (m + 1) v680 a683 =
    cond (decide (v680 < ((m678 : Nat) : Int)))
     (
      if 0 ≤ v680 ∧ v680 < (m678 : Nat) then
        if (m677 + v680.toNat) < m681 then
          if a683.length + 1 ≤ 67108864 then
            (g82l0 m677 m678 m679 m681 a682 k689 m) (IntKind.wrap .i64 (v680 + (1 : Int))) (a683 ++ [(IntKind.wrap .i8 (0 - (List.getD a682 (m677 + v680.toNat) 0)))])
          else
            none
        else
          none
      else
        none)
     (
      k689 a683) := by kernel_rfl
theorem g82l0_z {α : Type} (m677 : Nat) (m678 : Nat) (m679 : Nat) (m681 : Nat) (a682 : List Int) (k689 : (List Int) → Option α) (v680 : Int) (a683 : List Int) : g82l0 m677 m678 m679 m681 a682 k689 0 v680 a683 = none := by kernel_rfl
theorem g82_o {α : Type} (m : Nat) (m672 : Nat) (m673 : Nat) (m674 : Nat) (m675 : Nat) (u676 : List Int) (k692 : (List Int) → Option α) : g82 m m672 m673 m674 m675 u676 k692 =
    g82l0 m672 m673 m674 m675 u676
      (fun l691 =>
        k692 l691)
      m (0 : Int) [] := by kernel_rfl

theorem g46_o {α : Type} (m : Nat) (m660 : Nat) (m661 : Nat) (m662 : Nat) (m663 : Nat) (m664 : Nat) (m665 : Nat) (m666 : Nat) (u667 : List Int) (m668 : Nat) (u669 : List Int) (k695 : Option α) (k696 : (List Int) → (List Int) → Option α) : g46 m m660 m661 m662 m663 m664 m665 m666 u667 m668 u669 k695 k696 =
    (g76 m) m660 m661 m662 m663 m664 m665 m666 u667 m668 u669
      (fun b670 =>
        cond (!b670)
         (
          k695)
         (
          (g82 m) m660 m661 m662 m666 u667
            (fun l693 =>
              (g82 m) m663 m664 m665 m668 u669
                (fun l694 =>
                  k696 l693 l694)))) := by kernel_rfl

theorem g83l0_s {α : Type} (m717 : Nat) (m718 : Nat) (m719 : Nat) (m720 : Nat) (m721 : Nat) (m722 : Nat) (v723 : Int) (m725 : Nat) (a726 : List Int) (m727 : Nat) (k734 : (List Int) → Option α) (m : Nat) (v724 : Int) (a728 : List Int) : g83l0 m717 m718 m719 m720 m721 m722 v723 m725 a726 m727 k734 (m + 1) v724 a728 =
    cond (decide (v724 < v723))
     (
      if 0 ≤ v724 ∧ v724 < (m721 : Nat) then
        if (m720 + v724.toNat) < m725 then
          if 0 ≤ v724 ∧ v724 < (m718 : Nat) then
            if (m717 + v724.toNat) < m727 then
              (g83l0 m717 m718 m719 m720 m721 m722 v723 m725 a726 m727 k734 m) (IntKind.wrap .i64 (v724 + (1 : Int))) (List.set a728 (m717 + v724.toNat) (IntKind.wrap .i8 (0 - (List.getD a726 (m720 + v724.toNat) 0))))
            else
              none
          else
            none
        else
          none
      else
        none)
     (
      k734 a728) := by kernel_rfl
theorem g83l0_z {α : Type} (m717 : Nat) (m718 : Nat) (m719 : Nat) (m720 : Nat) (m721 : Nat) (m722 : Nat) (v723 : Int) (m725 : Nat) (a726 : List Int) (m727 : Nat) (k734 : (List Int) → Option α) (v724 : Int) (a728 : List Int) : g83l0 m717 m718 m719 m720 m721 m722 v723 m725 a726 m727 k734 0 v724 a728 = none := by kernel_rfl
theorem g83_o {α : Type} (m : Nat) (m711 : Nat) (m712 : Nat) (m713 : Nat) (m714 : Nat) (u715 : List Int) (k737 : (List Int) → Option α) : g83 m m711 m712 m713 m714 u715 k737 =
    if ((m712 : Nat) : Int) = ((m712 : Nat) : Int) ∧ 0 ≤ ((m712 : Nat) : Int) ∧ ((m712 : Nat) : Int) ≤ 1048576 then
      g83l0 0 m712 m712 m711 m712 m713 ((m712 : Nat) : Int) m714 u715 m712
        (fun l736 =>
          k737 l736)
        m (0 : Int) (List.replicate m712 (0 : Int))
    else
      none := by kernel_rfl

theorem g47_o {α : Type} (m : Nat) (m699 : Nat) (m700 : Nat) (m701 : Nat) (m702 : Nat) (m703 : Nat) (m704 : Nat) (m705 : Nat) (u706 : List Int) (m707 : Nat) (u708 : List Int) (k740 : Option α) (k741 : (List Int) → (List Int) → Option α) : g47 m m699 m700 m701 m702 m703 m704 m705 u706 m707 u708 k740 k741 =
    (g41 m) m699 m700 m701 m702 m703 m704 m705 u706 m707 u708
      (fun b709 =>
        cond (!b709)
         (
          k740)
         (
          (g83 m) m699 m700 m701 m705 u706
            (fun l738 =>
              (g83 m) m702 m703 m704 m707 u708
                (fun l739 =>
                  k741 l738 l739)))) := by kernel_rfl

theorem g54v1l0_s {α : Type} (v742 : Int) (k744 : Option α) (m : Nat)  : g54v1l0 v742 k744 (m + 1)  =
    cond (decide (v742 < (0 : Int)))
     (
      none)
     (
      k744) := by kernel_rfl
theorem g54v1l0_z {α : Type} (v742 : Int) (k744 : Option α)  : g54v1l0 v742 k744 0  = none := by kernel_rfl
theorem g54v1_o {α : Type} (m : Nat)  (k746 : Option α) : g54v1 m  k746 =
    g54v1l0 (0 : Int)
      (
        k746)
      m  := by kernel_rfl

theorem g39v1_o {α : Type} (m : Nat)  (k747 : Option α) : g39v1 m  k747 =
    (g54v1 m)
      (
        (g54v1 m)
          (
            k747)) := by kernel_rfl

theorem g55l0_s {α : Type} (m769 : Nat) (m770 : Nat) (m771 : Nat) (m774 : Nat) (k781 : Int → (List Int) → Option α) (m : Nat) (v772 : Int) (v773 : Int) (a775 : List Int) : g55l0 m769 m770 m771 m774 k781 (m + 1) v772 v773 a775 =
    cond (decide (v773 < ((m770 : Nat) : Int)))
     (
      if 0 ≤ v773 ∧ v773 < (m770 : Nat) then
        if (m769 + v773.toNat) < m774 then
          (g55l0 m769 m770 m771 m774 k781 m) (IntKind.wrap .i64 (v772 + (1 : Int))) (IntKind.wrap .i64 (v773 + (1 : Int))) (List.set a775 (m769 + v773.toNat) (IntKind.wrap .i8 v772))
        else
          none
      else
        none)
     (
      k781 v772 a775) := by kernel_rfl
theorem g55l0_z {α : Type} (m769 : Nat) (m770 : Nat) (m771 : Nat) (m774 : Nat) (k781 : Int → (List Int) → Option α) (v772 : Int) (v773 : Int) (a775 : List Int) : g55l0 m769 m770 m771 m774 k781 0 v772 v773 a775 = none := by kernel_rfl
theorem g55_o {α : Type} (m : Nat) (m763 : Nat) (m764 : Nat) (m765 : Nat) (p766 : Int) (m767 : Nat) (u768 : List Int) (k785 : Int → (List Int) → Option α) : g55 m m763 m764 m765 p766 m767 u768 k785 =
    g55l0 m763 m764 m765 m767
      (fun x783 l784 =>
        k785 x783 l784)
      m p766 (0 : Int) u768 := by kernel_rfl

theorem g48_o {α : Type} (m : Nat) (m752 : Nat) (m753 : Nat) (m754 : Nat) (m755 : Nat) (m756 : Nat) (m757 : Nat) (p758 : Int) (m759 : Nat) (u760 : List Int) (m761 : Nat) (u762 : List Int) (k790 : Int → (List Int) → (List Int) → Option α) : g48 m m752 m753 m754 m755 m756 m757 p758 m759 u760 m761 u762 k790 =
    (g55 m) m752 m753 m754 p758 m759 u760
      (fun x786 l787 =>
        (g55 m) m755 m756 m757 x786 m761 u762
          (fun x788 l789 =>
            k790 x788 l787 l789)) := by kernel_rfl

theorem g55v1l0_s {α : Type} (v797 : Int) (v798 : Int) (k801 : Option α) (m : Nat)  : g55v1l0 v797 v798 k801 (m + 1)  =
    cond (decide (v798 < (0 : Int)))
     (
      none)
     (
      k801) := by kernel_rfl
theorem g55v1l0_z {α : Type} (v797 : Int) (v798 : Int) (k801 : Option α)  : g55v1l0 v797 v798 k801 0  = none := by kernel_rfl
theorem g55v1_o {α : Type} (m : Nat) (p796 : Int) (k803 : Option α) : g55v1 m p796 k803 =
    g55v1l0 p796 (0 : Int)
      (
        k803)
      m  := by kernel_rfl

theorem g48v1_o {α : Type} (m : Nat) (p795 : Int) (k804 : Option α) : g48v1 m p795 k804 =
    (g55v1 m) p795
      (
        (g55v1 m) p795
          (
            k804)) := by kernel_rfl

theorem g56l0_s {α : Type} (v807 : Int) (v808 : Int) (k810 : Option α) (m : Nat)  : g56l0 v807 v808 k810 (m + 1)  =
    cond (decide (v808 < (0 : Int)))
     (
      none)
     (
      k810) := by kernel_rfl
theorem g56l0_z {α : Type} (v807 : Int) (v808 : Int) (k810 : Option α)  : g56l0 v807 v808 k810 0  = none := by kernel_rfl
theorem g56_o {α : Type} (m : Nat) (p806 : Int) (k812 : Option α) : g56 m p806 k812 =
    g56l0 p806 (0 : Int)
      (
        k812)
      m  := by kernel_rfl

theorem g49_o {α : Type} (m : Nat) (p805 : Int) (k815 : Int → Option α) : g49 m p805 k815 =
    (g56 m) p805
      (
        cond (decide (p805 < (0 : Int)))
         (
          k815 (-1 : Int))
         (
          (g56 m) p805
            (
              cond (decide (p805 < (0 : Int)))
               (
                k815 (-1 : Int))
               (
                k815 p805)))) := by kernel_rfl

theorem g54v2l0_s {α : Type} (m842 : Nat) (m843 : Nat) (m844 : Nat) (v845 : Int) (m846 : Nat) (a847 : List Int) (k850 : Option α) (m : Nat)  : g54v2l0 m842 m843 m844 v845 m846 a847 k850 (m + 1)  =
    cond (decide (v845 < ((m843 : Nat) : Int)))
     (
      if 0 ≤ v845 ∧ v845 < (m843 : Nat) then
        if (m842 + v845.toNat) < m846 then
          none
        else
          none
      else
        none)
     (
      k850) := by kernel_rfl
theorem g54v2l0_z {α : Type} (m842 : Nat) (m843 : Nat) (m844 : Nat) (v845 : Int) (m846 : Nat) (a847 : List Int) (k850 : Option α)  : g54v2l0 m842 m843 m844 v845 m846 a847 k850 0  = none := by kernel_rfl
theorem g54v2_o {α : Type} (m : Nat) (m836 : Nat) (m837 : Nat) (m838 : Nat) (m839 : Nat) (u840 : List Int) (k852 : Bool → Option α) : g54v2 m m836 m837 m838 m839 u840 k852 =
    cond (((m837 : Nat) : Int) != (0 : Int))
     (
      k852 false)
     (
      g54v2l0 m836 m837 m838 (0 : Int) m839 u840
        (
          k852 true)
        m ) := by kernel_rfl

theorem g39v2_o {α : Type} (m : Nat) (m826 : Nat) (m827 : Nat) (m828 : Nat) (m829 : Nat) (m830 : Nat) (m831 : Nat) (m832 : Nat) (u833 : List Int) (m834 : Nat) (u835 : List Int) (k857 : Bool → Option α) : g39v2 m m826 m827 m828 m829 m830 m831 m832 u833 m834 u835 k857 =
    (g54v2 m) m826 m827 m828 m832 u833
      (fun b853 =>
        cond (!b853)
         (
          k857 false)
         (
          (g54v2 m) m829 m830 m831 m834 u835
            (fun b855 =>
              cond (!b855)
               (
                k857 false)
               (
                k857 true)))) := by kernel_rfl

theorem g54v3l0_s {α : Type} (v872 : Int) (a873 : List Int) (k875 : Option α) (m : Nat)  : g54v3l0 v872 a873 k875 (m + 1)  =
    cond (decide (v872 < (0 : Int)))
     (
      none)
     (
      k875) := by kernel_rfl
theorem g54v3l0_z {α : Type} (v872 : Int) (a873 : List Int) (k875 : Option α)  : g54v3l0 v872 a873 k875 0  = none := by kernel_rfl
theorem g54v3_o {α : Type} (m : Nat) (u870 : List Int) (k877 : Bool → Option α) : g54v3 m u870 k877 =
    cond ((0 : Int) != ((u870.length : Nat) : Int))
     (
      k877 false)
     (
      g54v3l0 (0 : Int) u870
        (
          k877 true)
        m ) := by kernel_rfl

theorem g39v3_o {α : Type} (m : Nat) (u868 : List Int) (u869 : List Int) (k882 : Bool → Option α) : g39v3 m u868 u869 k882 =
    (g54v3 m) u868
      (fun b878 =>
        cond (!b878)
         (
          k882 false)
         (
          (g54v3 m) u869
            (fun b880 =>
              cond (!b880)
               (
                k882 false)
               (
                k882 true)))) := by kernel_rfl

theorem g54v4l0_s {α : Type} (m906 : Nat) (m907 : Nat) (m908 : Nat) (m910 : Nat) (a911 : List Int) (a912 : List Int) (k918 : Option α) (k919 : Option α) (m : Nat) (v909 : Int) : g54v4l0 m906 m907 m908 m910 a911 a912 k918 k919 (m + 1) v909 =
    cond (decide (v909 < ((m907 : Nat) : Int)))
     (
      if 0 ≤ v909 ∧ v909 < (m907 : Nat) then
        if (m906 + v909.toNat) < m910 then
          if 0 ≤ v909 ∧ v909 < (a912.length : Nat) then
            if v909.toNat < a912.length then
              cond ((List.getD a911 (m906 + v909.toNat) 0) != (List.getD a912 v909.toNat 0))
               (
                k918)
               (
                (g54v4l0 m906 m907 m908 m910 a911 a912 k918 k919 m) (IntKind.wrap .i64 (v909 + (1 : Int))))
            else
              none
          else
            none
        else
          none
      else
        none)
     (
      k919) := by kernel_rfl
theorem g54v4l0_z {α : Type} (m906 : Nat) (m907 : Nat) (m908 : Nat) (m910 : Nat) (a911 : List Int) (a912 : List Int) (k918 : Option α) (k919 : Option α) (v909 : Int) : g54v4l0 m906 m907 m908 m910 a911 a912 k918 k919 0 v909 = none := by kernel_rfl
theorem g54v4_o {α : Type} (m : Nat) (m899 : Nat) (m900 : Nat) (m901 : Nat) (m902 : Nat) (u903 : List Int) (u904 : List Int) (k921 : Bool → Option α) : g54v4 m m899 m900 m901 m902 u903 u904 k921 =
    cond (((m900 : Nat) : Int) != ((u904.length : Nat) : Int))
     (
      k921 false)
     (
      g54v4l0 m899 m900 m901 m902 u903 u904
        (
          k921 false)
        (
          k921 true)
        m (0 : Int)) := by kernel_rfl

theorem g39v4_o {α : Type} (m : Nat) (m887 : Nat) (m888 : Nat) (m889 : Nat) (m890 : Nat) (m891 : Nat) (m892 : Nat) (m893 : Nat) (u894 : List Int) (m895 : Nat) (u896 : List Int) (u897 : List Int) (u898 : List Int) (k926 : Bool → Option α) : g39v4 m m887 m888 m889 m890 m891 m892 m893 u894 m895 u896 u897 u898 k926 =
    (g54v4 m) m887 m888 m889 m893 u894 u897
      (fun b922 =>
        cond (!b922)
         (
          k926 false)
         (
          (g54v4 m) m890 m891 m892 m895 u896 u898
            (fun b924 =>
              cond (!b924)
               (
                k926 false)
               (
                k926 true)))) := by kernel_rfl

theorem g56v1l0_s {α : Type} (m959 : Nat) (m960 : Nat) (m961 : Nat) (m964 : Nat) (a965 : List Int) (k972 : Option α) (k973 : Int → Option α) (m : Nat) (v962 : Int) (v963 : Int) : g56v1l0 m959 m960 m961 m964 a965 k972 k973 (m + 1) v962 v963 =
    cond (decide (v963 < ((m960 : Nat) : Int)))
     (
      if 0 ≤ v963 ∧ v963 < (m960 : Nat) then
        if (m959 + v963.toNat) < m964 then
          cond ((List.getD a965 (m959 + v963.toNat) 0) != (IntKind.wrap .i8 v962))
           (
            k972)
           (
            (g56v1l0 m959 m960 m961 m964 a965 k972 k973 m) (IntKind.wrap .i64 (v962 + (1 : Int))) (IntKind.wrap .i64 (v963 + (1 : Int))))
        else
          none
      else
        none)
     (
      k973 v962) := by kernel_rfl
theorem g56v1l0_z {α : Type} (m959 : Nat) (m960 : Nat) (m961 : Nat) (m964 : Nat) (a965 : List Int) (k972 : Option α) (k973 : Int → Option α) (v962 : Int) (v963 : Int) : g56v1l0 m959 m960 m961 m964 a965 k972 k973 0 v962 v963 = none := by kernel_rfl
theorem g56v1_o {α : Type} (m : Nat) (m953 : Nat) (m954 : Nat) (m955 : Nat) (p956 : Int) (m957 : Nat) (u958 : List Int) (k976 : Int → Option α) : g56v1 m m953 m954 m955 p956 m957 u958 k976 =
    g56v1l0 m953 m954 m955 m957 u958
      (
        k976 (-1 : Int))
      (fun x975 =>
        k976 x975)
      m p956 (0 : Int) := by kernel_rfl

theorem g49v1_o {α : Type} (m : Nat) (m942 : Nat) (m943 : Nat) (m944 : Nat) (m945 : Nat) (m946 : Nat) (m947 : Nat) (p948 : Int) (m949 : Nat) (u950 : List Int) (m951 : Nat) (u952 : List Int) (k981 : Int → Option α) : g49v1 m m942 m943 m944 m945 m946 m947 p948 m949 u950 m951 u952 k981 =
    (g56v1 m) m942 m943 m944 p948 m949 u950
      (fun x977 =>
        cond (decide (x977 < (0 : Int)))
         (
          k981 (-1 : Int))
         (
          (g56v1 m) m945 m946 m947 x977 m951 u952
            (fun x979 =>
              cond (decide (x979 < (0 : Int)))
               (
                k981 (-1 : Int))
               (
                k981 x979)))) := by kernel_rfl

theorem g14_o {α : Type} (m : Nat) (m646 : Nat) (m647 : Nat) (m648 : Nat) (m649 : Nat) (m650 : Nat) (m651 : Nat) (m652 : Nat) (u653 : List Int) (m654 : Nat) (u655 : List Int) (k996 : Bool → Option α) : g14 m m646 m647 m648 m649 m650 m651 m652 u653 m654 u655 k996 =
    (g35 m) m646 m647 m648 m649 m650 m651 (1048576 : Int) m652 u653 m654 u655
      (fun x656 =>
        cond (decide (x656 < (0 : Int)))
         (
          k996 true)
         (
          (g37 m) m646 m647 m648 m649 m650 m651 m652 u653 m654 u655
            (fun l658 l659 =>
              (g46 m) 0 m647 m647 0 m650 m650 m647 l658 m650 l659
                (
                  (g37 m) m646 m647 m648 m649 m650 m651 m652 u653 m654 u655
                    (fun l697 l698 =>
                      (g47 m) 0 m647 m647 0 m650 m650 m647 l697 m650 l698
                        (
                          (g39v1 m)
                            (
                              (g37 m) m646 m647 m648 m649 m650 m651 m652 u653 m654 u655
                                (fun l748 l749 =>
                                  (g39 m) 0 m647 m647 0 m650 m650 0 m647 m647 0 m650 m650 m647 l697 m650 l698 m647 l748 m650 l749
                                    (fun b750 =>
                                      cond (!b750)
                                       (
                                        k996 false)
                                       (
                                        (g48 m) 0 m647 m647 0 m650 m650 (1 : Int) m647 l697 m650 l698
                                          (fun x791 l792 l793 =>
                                            cond (decide (x791 < (0 : Int)))
                                             (
                                              k996 false)
                                             (
                                              (g39v1 m)
                                                (
                                                  (g48v1 m) (1 : Int)
                                                    (
                                                      (g49 m) (1 : Int)
                                                        (fun x816 =>
                                                          cond (decide (x816 < (0 : Int)))
                                                           (
                                                            k996 false)
                                                           (
                                                            cond (x816 != (1 : Int))
                                                             (
                                                              k996 false)
                                                             (
                                                              (g37 m) m646 m647 m648 m649 m650 m651 m652 u653 m654 u655
                                                                (fun l819 l820 =>
                                                                  (g47 m) 0 m647 m647 0 m650 m650 m647 l819 m650 l820
                                                                    (
                                                                      (g39v1 m)
                                                                        (
                                                                          (g49 m) (1 : Int)
                                                                            (fun x821 =>
                                                                              cond (decide (x821 < (0 : Int)))
                                                                               (
                                                                                k996 false)
                                                                               (
                                                                                cond (x821 != (1 : Int))
                                                                                 (
                                                                                  k996 false)
                                                                                 (
                                                                                  k996 true)))))
                                                                    (fun l824 l825 =>
                                                                      (g39v2 m) 0 m647 m647 0 m650 m650 m647 l824 m650 l825
                                                                        (fun b858 =>
                                                                          cond (!b858)
                                                                           (
                                                                            k996 false)
                                                                           (
                                                                            k996 false))))))))))))))))
                        (fun l860 l861 =>
                          (g39v2 m) 0 m647 m647 0 m650 m650 m647 l860 m650 l861
                            (fun b862 =>
                              cond (!b862)
                               (
                                k996 false)
                               (
                                k996 false)))))
                (fun l864 l865 =>
                  (g37 m) m646 m647 m648 m649 m650 m651 m652 u653 m654 u655
                    (fun l866 l867 =>
                      (g47 m) 0 m647 m647 0 m650 m650 m647 l866 m650 l867
                        (
                          (g39v3 m) l864 l865
                            (fun b883 =>
                              cond (!b883)
                               (
                                k996 false)
                               (
                                k996 false)))
                        (fun l885 l886 =>
                          (g39v4 m) 0 m647 m647 0 m650 m650 m647 l885 m650 l886 l864 l865
                            (fun b927 =>
                              cond (!b927)
                               (
                                k996 false)
                               (
                                (g37 m) m646 m647 m648 m649 m650 m651 m652 u653 m654 u655
                                  (fun l929 l930 =>
                                    (g39 m) 0 m647 m647 0 m650 m650 0 m647 m647 0 m650 m650 m647 l866 m650 l867 m647 l929 m650 l930
                                      (fun b931 =>
                                        cond (!b931)
                                         (
                                          k996 false)
                                         (
                                          (g48 m) 0 m647 m647 0 m650 m650 (1 : Int) m647 l866 m650 l867
                                            (fun x933 l934 l935 =>
                                              cond (decide (x933 < (0 : Int)))
                                               (
                                                k996 false)
                                               (
                                                (g39v4 m) 0 m647 m647 0 m650 m650 m647 l885 m650 l886 l864 l865
                                                  (fun b937 =>
                                                    cond (!b937)
                                                     (
                                                      k996 false)
                                                     (
                                                      (g48 m) 0 m647 m647 0 m650 m650 (1 : Int) m647 l885 m650 l886
                                                        (fun x939 l940 l941 =>
                                                          (g49v1 m) 0 m647 m647 0 m650 m650 (1 : Int) m647 l940 m650 l941
                                                            (fun x982 =>
                                                              cond (decide (x982 < (0 : Int)))
                                                               (
                                                                k996 false)
                                                               (
                                                                cond (x982 != x939)
                                                                 (
                                                                  k996 false)
                                                                 (
                                                                  (g37 m) m646 m647 m648 m649 m650 m651 m652 u653 m654 u655
                                                                    (fun l985 l986 =>
                                                                      (g47 m) 0 m647 m647 0 m650 m650 m647 l985 m650 l986
                                                                        (
                                                                          (g39v3 m) l864 l865
                                                                            (fun b987 =>
                                                                              cond (!b987)
                                                                               (
                                                                                k996 false)
                                                                               (
                                                                                k996 false)))
                                                                        (fun l989 l990 =>
                                                                          (g39v4 m) 0 m647 m647 0 m650 m650 m647 l989 m650 l990 l864 l865
                                                                            (fun b991 =>
                                                                              cond (!b991)
                                                                               (
                                                                                k996 false)
                                                                               (
                                                                                (g49v1 m) 0 m647 m647 0 m650 m650 (1 : Int) m647 l940 m650 l941
                                                                                  (fun x993 =>
                                                                                    cond (decide (x993 < (0 : Int)))
                                                                                     (
                                                                                      k996 false)
                                                                                     (
                                                                                      cond (x993 != x939)
                                                                                       (
                                                                                        k996 false)
                                                                                       (
                                                                                        k996 true)))))))))))))))))))))))))) := by kernel_rfl

theorem g50_o {α : Type} (m : Nat) (m1011 : Nat) (m1012 : Nat) (m1013 : Nat) (m1014 : Nat) (m1015 : Nat) (m1016 : Nat) (m1017 : Nat) (u1018 : List Int) (m1019 : Nat) (u1020 : List Int) (k1027 : Int → Option α) (k1028 : (List Int) → (List Int) → Option α) : g50 m m1011 m1012 m1013 m1014 m1015 m1016 m1017 u1018 m1019 u1020 k1027 k1028 =
    (g76 m) m1011 m1012 m1013 m1014 m1015 m1016 m1017 u1018 m1019 u1020
      (fun b1021 =>
        cond (!b1021)
         (
          k1027 (1 : Int))
         (
          cond (((m1012 : Nat) : Int) == (16 : Int))
           (
            k1027 (3 : Int))
           (
            if m1011 + m1012 ≤ m1017 then
              let l1024 : List Int := List.take m1012 (List.drop m1011 u1018)
              if 1 + l1024.length ≤ 67108864 then
                if m1014 + m1015 ≤ m1019 then
                  let l1026 : List Int := List.take m1015 (List.drop m1014 u1020)
                  if 0 + l1026.length ≤ 67108864 then
                    k1028 ([(0 : Int)] ++ l1024) l1026
                  else
                    none
                else
                  none
              else
                none
            else
              none))) := by kernel_rfl

theorem g84_o {α : Type} (m : Nat) (m1047 : Nat) (m1048 : Nat) (m1049 : Nat) (m1050 : Nat) (u1051 : List Int) (k1053 : (List Int) → Option α) : g84 m m1047 m1048 m1049 m1050 u1051 k1053 =
    if m1047 + m1048 ≤ m1050 then
      let l1052 : List Int := List.take m1048 (List.drop m1047 u1051)
      if 0 + l1052.length ≤ 67108864 then
        k1053 l1052
      else
        none
    else
      none := by kernel_rfl

theorem g51_o {α : Type} (m : Nat) (m1032 : Nat) (m1033 : Nat) (m1034 : Nat) (m1035 : Nat) (m1036 : Nat) (m1037 : Nat) (m1038 : Nat) (u1039 : List Int) (m1040 : Nat) (u1041 : List Int) (k1055 : Int → Option α) (k1056 : (List Int) → (List Int) → Option α) : g51 m m1032 m1033 m1034 m1035 m1036 m1037 m1038 u1039 m1040 u1041 k1055 k1056 =
    (g41 m) m1032 m1033 m1034 m1035 m1036 m1037 m1038 u1039 m1040 u1041
      (fun b1042 =>
        cond (!b1042)
         (
          k1055 (1 : Int))
         (
          cond (((m1033 : Nat) : Int) == (16 : Int))
           (
            k1055 (3 : Int))
           (
            if m1032 + m1033 ≤ m1038 then
              let l1045 : List Int := List.take m1033 (List.drop m1032 u1039)
              if 1 + l1045.length ≤ 67108864 then
                (g84 m) m1035 m1036 m1037 m1040 u1041
                  (fun l1054 =>
                    k1056 ([(0 : Int)] ++ l1045) l1054)
              else
                none
            else
              none))) := by kernel_rfl

theorem g54v5l0_s {α : Type} (v1084 : Int) (a1085 : List Int) (k1088 : Option α) (m : Nat)  : g54v5l0 v1084 a1085 k1088 (m + 1)  =
    cond (decide (v1084 < ((a1085.length : Nat) : Int)))
     (
      if 0 ≤ v1084 ∧ v1084 < (a1085.length : Nat) then
        if v1084.toNat < a1085.length then
          none
        else
          none
      else
        none)
     (
      k1088) := by kernel_rfl
theorem g54v5l0_z {α : Type} (v1084 : Int) (a1085 : List Int) (k1088 : Option α)  : g54v5l0 v1084 a1085 k1088 0  = none := by kernel_rfl
theorem g54v5_o {α : Type} (m : Nat) (u1082 : List Int) (k1090 : Bool → Option α) : g54v5 m u1082 k1090 =
    cond (((u1082.length : Nat) : Int) != (0 : Int))
     (
      k1090 false)
     (
      g54v5l0 (0 : Int) u1082
        (
          k1090 true)
        m ) := by kernel_rfl

theorem g39v5_o {α : Type} (m : Nat) (u1080 : List Int) (u1081 : List Int) (k1095 : Bool → Option α) : g39v5 m u1080 u1081 k1095 =
    (g54v5 m) u1080
      (fun b1091 =>
        cond (!b1091)
         (
          k1095 false)
         (
          (g54v5 m) u1081
            (fun b1093 =>
              cond (!b1093)
               (
                k1095 false)
               (
                k1095 true)))) := by kernel_rfl

theorem g55v2l0_s {α : Type}  (k1131 : Int → (List Int) → Option α) (m : Nat) (v1123 : Int) (v1124 : Int) (a1125 : List Int) : g55v2l0 k1131 (m + 1) v1123 v1124 a1125 =
    cond (decide (v1124 < ((a1125.length : Nat) : Int)))
     (
      if 0 ≤ v1124 ∧ v1124 < (a1125.length : Nat) then
        if v1124.toNat < a1125.length then
          (g55v2l0 k1131 m) (IntKind.wrap .i64 (v1123 + (1 : Int))) (IntKind.wrap .i64 (v1124 + (1 : Int))) (List.set a1125 (v1124.toNat) (IntKind.wrap .i8 v1123))
        else
          none
      else
        none)
     (
      k1131 v1123 a1125) := by kernel_rfl
theorem g55v2l0_z {α : Type}  (k1131 : Int → (List Int) → Option α) (v1123 : Int) (v1124 : Int) (a1125 : List Int) : g55v2l0 k1131 0 v1123 v1124 a1125 = none := by kernel_rfl
theorem g55v2_o {α : Type} (m : Nat) (p1121 : Int) (u1122 : List Int) (k1135 : Int → (List Int) → Option α) : g55v2 m p1121 u1122 k1135 =
    g55v2l0
      (fun x1133 l1134 =>
        k1135 x1133 l1134)
      m p1121 (0 : Int) u1122 := by kernel_rfl

theorem g48v2_o {α : Type} (m : Nat) (p1118 : Int) (u1119 : List Int) (u1120 : List Int) (k1140 : Int → (List Int) → (List Int) → Option α) : g48v2 m p1118 u1119 u1120 k1140 =
    (g55v2 m) p1118 u1119
      (fun x1136 l1137 =>
        (g55v2 m) x1136 u1120
          (fun x1138 l1139 =>
            k1140 x1138 l1137 l1139)) := by kernel_rfl

theorem g56v2l0_s {α : Type} (a1151 : List Int) (k1158 : Option α) (k1159 : Int → Option α) (m : Nat) (v1149 : Int) (v1150 : Int) : g56v2l0 a1151 k1158 k1159 (m + 1) v1149 v1150 =
    cond (decide (v1150 < ((a1151.length : Nat) : Int)))
     (
      if 0 ≤ v1150 ∧ v1150 < (a1151.length : Nat) then
        if v1150.toNat < a1151.length then
          cond ((List.getD a1151 v1150.toNat 0) != (IntKind.wrap .i8 v1149))
           (
            k1158)
           (
            (g56v2l0 a1151 k1158 k1159 m) (IntKind.wrap .i64 (v1149 + (1 : Int))) (IntKind.wrap .i64 (v1150 + (1 : Int))))
        else
          none
      else
        none)
     (
      k1159 v1149) := by kernel_rfl
theorem g56v2l0_z {α : Type} (a1151 : List Int) (k1158 : Option α) (k1159 : Int → Option α) (v1149 : Int) (v1150 : Int) : g56v2l0 a1151 k1158 k1159 0 v1149 v1150 = none := by kernel_rfl
theorem g56v2_o {α : Type} (m : Nat) (p1147 : Int) (u1148 : List Int) (k1162 : Int → Option α) : g56v2 m p1147 u1148 k1162 =
    g56v2l0 u1148
      (
        k1162 (-1 : Int))
      (fun x1161 =>
        k1162 x1161)
      m p1147 (0 : Int) := by kernel_rfl

theorem g49v2_o {α : Type} (m : Nat) (p1144 : Int) (u1145 : List Int) (u1146 : List Int) (k1167 : Int → Option α) : g49v2 m p1144 u1145 u1146 k1167 =
    (g56v2 m) p1144 u1145
      (fun x1163 =>
        cond (decide (x1163 < (0 : Int)))
         (
          k1167 (-1 : Int))
         (
          (g56v2 m) x1163 u1146
            (fun x1165 =>
              cond (decide (x1165 < (0 : Int)))
               (
                k1167 (-1 : Int))
               (
                k1167 x1165)))) := by kernel_rfl

theorem g54v6l0_s {α : Type} (a1227 : List Int) (a1228 : List Int) (k1234 : Option α) (k1235 : Option α) (m : Nat) (v1226 : Int) : g54v6l0 a1227 a1228 k1234 k1235 (m + 1) v1226 =
    cond (decide (v1226 < ((a1227.length : Nat) : Int)))
     (
      if 0 ≤ v1226 ∧ v1226 < (a1227.length : Nat) then
        if v1226.toNat < a1227.length then
          if 0 ≤ v1226 ∧ v1226 < (a1228.length : Nat) then
            if v1226.toNat < a1228.length then
              cond ((List.getD a1227 v1226.toNat 0) != (List.getD a1228 v1226.toNat 0))
               (
                k1234)
               (
                (g54v6l0 a1227 a1228 k1234 k1235 m) (IntKind.wrap .i64 (v1226 + (1 : Int))))
            else
              none
          else
            none
        else
          none
      else
        none)
     (
      k1235) := by kernel_rfl
theorem g54v6l0_z {α : Type} (a1227 : List Int) (a1228 : List Int) (k1234 : Option α) (k1235 : Option α) (v1226 : Int) : g54v6l0 a1227 a1228 k1234 k1235 0 v1226 = none := by kernel_rfl
theorem g54v6_o {α : Type} (m : Nat) (u1223 : List Int) (u1224 : List Int) (k1237 : Bool → Option α) : g54v6 m u1223 u1224 k1237 =
    cond (((u1223.length : Nat) : Int) != ((u1224.length : Nat) : Int))
     (
      k1237 false)
     (
      g54v6l0 u1223 u1224
        (
          k1237 false)
        (
          k1237 true)
        m (0 : Int)) := by kernel_rfl

theorem g39v6_o {α : Type} (m : Nat) (u1219 : List Int) (u1220 : List Int) (u1221 : List Int) (u1222 : List Int) (k1242 : Bool → Option α) : g39v6 m u1219 u1220 u1221 u1222 k1242 =
    (g54v6 m) u1219 u1221
      (fun b1238 =>
        cond (!b1238)
         (
          k1242 false)
         (
          (g54v6 m) u1220 u1222
            (fun b1240 =>
              cond (!b1240)
               (
                k1242 false)
               (
                k1242 true)))) := by kernel_rfl

theorem g15_o {α : Type} (m : Nat) (m997 : Nat) (m998 : Nat) (m999 : Nat) (m1000 : Nat) (m1001 : Nat) (m1002 : Nat) (m1003 : Nat) (u1004 : List Int) (m1005 : Nat) (u1006 : List Int) (k1284 : Bool → Option α) : g15 m m997 m998 m999 m1000 m1001 m1002 m1003 u1004 m1005 u1006 k1284 =
    (g35 m) m997 m998 m999 m1000 m1001 m1002 (1048576 : Int) m1003 u1004 m1005 u1006
      (fun x1007 =>
        cond (decide (x1007 < (0 : Int)))
         (
          k1284 true)
         (
          (g37 m) m997 m998 m999 m1000 m1001 m1002 m1003 u1004 m1005 u1006
            (fun l1009 l1010 =>
              (g50 m) 0 m998 m998 0 m1001 m1001 m998 l1009 m1001 l1010
                (fun x1029 =>
                  (g37 m) m997 m998 m999 m1000 m1001 m1002 m1003 u1004 m1005 u1006
                    (fun l1030 l1031 =>
                      (g51 m) 0 m998 m998 0 m1001 m1001 m998 l1030 m1001 l1031
                        (fun x1057 =>
                          (g39v1 m)
                            (
                              cond (x1057 != x1029)
                               (
                                k1284 false)
                               (
                                (g37 m) m997 m998 m999 m1000 m1001 m1002 m1003 u1004 m1005 u1006
                                  (fun l1059 l1060 =>
                                    (g39 m) 0 m998 m998 0 m1001 m1001 0 m998 m998 0 m1001 m1001 m998 l1030 m1001 l1031 m998 l1059 m1001 l1060
                                      (fun b1061 =>
                                        cond (!b1061)
                                         (
                                          k1284 false)
                                         (
                                          (g48 m) 0 m998 m998 0 m1001 m1001 (1 : Int) m998 l1030 m1001 l1031
                                            (fun x1063 l1064 l1065 =>
                                              cond (decide (x1063 < (0 : Int)))
                                               (
                                                k1284 false)
                                               (
                                                (g39v1 m)
                                                  (
                                                    cond (x1057 != x1029)
                                                     (
                                                      k1284 false)
                                                     (
                                                      (g48v1 m) (1 : Int)
                                                        (
                                                          (g49 m) (1 : Int)
                                                            (fun x1068 =>
                                                              cond (decide (x1068 < (0 : Int)))
                                                               (
                                                                k1284 false)
                                                               (
                                                                cond (x1068 != (1 : Int))
                                                                 (
                                                                  k1284 false)
                                                                 (
                                                                  (g37 m) m997 m998 m999 m1000 m1001 m1002 m1003 u1004 m1005 u1006
                                                                    (fun l1071 l1072 =>
                                                                      (g51 m) 0 m998 m998 0 m1001 m1001 m998 l1071 m1001 l1072
                                                                        (fun x1073 =>
                                                                          (g39v1 m)
                                                                            (
                                                                              cond (x1073 != x1029)
                                                                               (
                                                                                k1284 false)
                                                                               (
                                                                                (g49 m) (1 : Int)
                                                                                  (fun x1075 =>
                                                                                    cond (decide (x1075 < (0 : Int)))
                                                                                     (
                                                                                      k1284 false)
                                                                                     (
                                                                                      cond (x1075 != (1 : Int))
                                                                                       (
                                                                                        k1284 false)
                                                                                       (
                                                                                        k1284 true))))))
                                                                        (fun l1078 l1079 =>
                                                                          (g39v5 m) l1078 l1079
                                                                            (fun b1096 =>
                                                                              cond (!b1096)
                                                                               (
                                                                                k1284 false)
                                                                               (
                                                                                cond ((0 : Int) != x1029)
                                                                                 (
                                                                                  k1284 false)
                                                                                 (
                                                                                  (g49 m) (1 : Int)
                                                                                    (fun x1099 =>
                                                                                      cond (decide (x1099 < (0 : Int)))
                                                                                       (
                                                                                        k1284 false)
                                                                                       (
                                                                                        cond (x1099 != (1 : Int))
                                                                                         (
                                                                                          k1284 false)
                                                                                         (
                                                                                          k1284 true))))))))))))))))))))))
                        (fun l1102 l1103 =>
                          (g39v5 m) l1102 l1103
                            (fun b1104 =>
                              cond (!b1104)
                               (
                                k1284 false)
                               (
                                cond ((0 : Int) != x1029)
                                 (
                                  k1284 false)
                                 (
                                  (g37 m) m997 m998 m999 m1000 m1001 m1002 m1003 u1004 m1005 u1006
                                    (fun l1107 l1108 =>
                                      (g39 m) 0 m998 m998 0 m1001 m1001 0 m998 m998 0 m1001 m1001 m998 l1030 m1001 l1031 m998 l1107 m1001 l1108
                                        (fun b1109 =>
                                          cond (!b1109)
                                           (
                                            k1284 false)
                                           (
                                            (g48 m) 0 m998 m998 0 m1001 m1001 (1 : Int) m998 l1030 m1001 l1031
                                              (fun x1111 l1112 l1113 =>
                                                cond (decide (x1111 < (0 : Int)))
                                                 (
                                                  k1284 false)
                                                 (
                                                  (g39v5 m) l1102 l1103
                                                    (fun b1115 =>
                                                      cond (!b1115)
                                                       (
                                                        k1284 false)
                                                       (
                                                        cond ((0 : Int) != x1029)
                                                         (
                                                          k1284 false)
                                                         (
                                                          (g48v2 m) (1 : Int) l1102 l1103
                                                            (fun x1141 l1142 l1143 =>
                                                              (g49v2 m) (1 : Int) l1142 l1143
                                                                (fun x1168 =>
                                                                  cond (decide (x1168 < (0 : Int)))
                                                                   (
                                                                    k1284 false)
                                                                   (
                                                                    cond (x1168 != x1141)
                                                                     (
                                                                      k1284 false)
                                                                     (
                                                                      (g37 m) m997 m998 m999 m1000 m1001 m1002 m1003 u1004 m1005 u1006
                                                                        (fun l1171 l1172 =>
                                                                          (g51 m) 0 m998 m998 0 m1001 m1001 m998 l1171 m1001 l1172
                                                                            (fun x1173 =>
                                                                              (g39v1 m)
                                                                                (
                                                                                  cond (x1173 != x1029)
                                                                                   (
                                                                                    k1284 false)
                                                                                   (
                                                                                    (g49v2 m) (1 : Int) l1142 l1143
                                                                                      (fun x1175 =>
                                                                                        cond (decide (x1175 < (0 : Int)))
                                                                                         (
                                                                                          k1284 false)
                                                                                         (
                                                                                          cond (x1175 != x1141)
                                                                                           (
                                                                                            k1284 false)
                                                                                           (
                                                                                            k1284 true))))))
                                                                            (fun l1178 l1179 =>
                                                                              (g39v5 m) l1178 l1179
                                                                                (fun b1180 =>
                                                                                  cond (!b1180)
                                                                                   (
                                                                                    k1284 false)
                                                                                   (
                                                                                    cond ((0 : Int) != x1029)
                                                                                     (
                                                                                      k1284 false)
                                                                                     (
                                                                                      (g49v2 m) (1 : Int) l1142 l1143
                                                                                        (fun x1183 =>
                                                                                          cond (decide (x1183 < (0 : Int)))
                                                                                           (
                                                                                            k1284 false)
                                                                                           (
                                                                                            cond (x1183 != x1141)
                                                                                             (
                                                                                              k1284 false)
                                                                                             (
                                                                                              k1284 true))))))))))))))))))))))))))
                (fun l1186 l1187 =>
                  (g37 m) m997 m998 m999 m1000 m1001 m1002 m1003 u1004 m1005 u1006
                    (fun l1188 l1189 =>
                      (g51 m) 0 m998 m998 0 m1001 m1001 m998 l1188 m1001 l1189
                        (fun x1190 =>
                          (g39v3 m) l1186 l1187
                            (fun b1191 =>
                              cond (!b1191)
                               (
                                k1284 false)
                               (
                                cond (x1190 != (0 : Int))
                                 (
                                  k1284 false)
                                 (
                                  (g37 m) m997 m998 m999 m1000 m1001 m1002 m1003 u1004 m1005 u1006
                                    (fun l1194 l1195 =>
                                      (g39 m) 0 m998 m998 0 m1001 m1001 0 m998 m998 0 m1001 m1001 m998 l1188 m1001 l1189 m998 l1194 m1001 l1195
                                        (fun b1196 =>
                                          cond (!b1196)
                                           (
                                            k1284 false)
                                           (
                                            (g48 m) 0 m998 m998 0 m1001 m1001 (1 : Int) m998 l1188 m1001 l1189
                                              (fun x1198 l1199 l1200 =>
                                                cond (decide (x1198 < (0 : Int)))
                                                 (
                                                  k1284 false)
                                                 (
                                                  (g39v3 m) l1186 l1187
                                                    (fun b1202 =>
                                                      cond (!b1202)
                                                       (
                                                        k1284 false)
                                                       (
                                                        cond (x1190 != (0 : Int))
                                                         (
                                                          k1284 false)
                                                         (
                                                          (g48v1 m) (1 : Int)
                                                            (
                                                              (g49 m) (1 : Int)
                                                                (fun x1205 =>
                                                                  cond (decide (x1205 < (0 : Int)))
                                                                   (
                                                                    k1284 false)
                                                                   (
                                                                    cond (x1205 != (1 : Int))
                                                                     (
                                                                      k1284 false)
                                                                     (
                                                                      (g37 m) m997 m998 m999 m1000 m1001 m1002 m1003 u1004 m1005 u1006
                                                                        (fun l1208 l1209 =>
                                                                          (g51 m) 0 m998 m998 0 m1001 m1001 m998 l1208 m1001 l1209
                                                                            (fun x1210 =>
                                                                              (g39v3 m) l1186 l1187
                                                                                (fun b1211 =>
                                                                                  cond (!b1211)
                                                                                   (
                                                                                    k1284 false)
                                                                                   (
                                                                                    cond (x1210 != (0 : Int))
                                                                                     (
                                                                                      k1284 false)
                                                                                     (
                                                                                      (g49 m) (1 : Int)
                                                                                        (fun x1214 =>
                                                                                          cond (decide (x1214 < (0 : Int)))
                                                                                           (
                                                                                            k1284 false)
                                                                                           (
                                                                                            cond (x1214 != (1 : Int))
                                                                                             (
                                                                                              k1284 false)
                                                                                             (
                                                                                              k1284 true)))))))
                                                                            (fun l1217 l1218 =>
                                                                              (g39v6 m) l1217 l1218 l1186 l1187
                                                                                (fun b1243 =>
                                                                                  cond (!b1243)
                                                                                   (
                                                                                    k1284 false)
                                                                                   (
                                                                                    (g49 m) (1 : Int)
                                                                                      (fun x1245 =>
                                                                                        cond (decide (x1245 < (0 : Int)))
                                                                                         (
                                                                                          k1284 false)
                                                                                         (
                                                                                          cond (x1245 != (1 : Int))
                                                                                           (
                                                                                            k1284 false)
                                                                                           (
                                                                                            k1284 true)))))))))))))))))))))))
                        (fun l1248 l1249 =>
                          (g39v6 m) l1248 l1249 l1186 l1187
                            (fun b1250 =>
                              cond (!b1250)
                               (
                                k1284 false)
                               (
                                (g37 m) m997 m998 m999 m1000 m1001 m1002 m1003 u1004 m1005 u1006
                                  (fun l1252 l1253 =>
                                    (g39 m) 0 m998 m998 0 m1001 m1001 0 m998 m998 0 m1001 m1001 m998 l1188 m1001 l1189 m998 l1252 m1001 l1253
                                      (fun b1254 =>
                                        cond (!b1254)
                                         (
                                          k1284 false)
                                         (
                                          (g48 m) 0 m998 m998 0 m1001 m1001 (1 : Int) m998 l1188 m1001 l1189
                                            (fun x1256 l1257 l1258 =>
                                              cond (decide (x1256 < (0 : Int)))
                                               (
                                                k1284 false)
                                               (
                                                (g39v6 m) l1248 l1249 l1186 l1187
                                                  (fun b1260 =>
                                                    cond (!b1260)
                                                     (
                                                      k1284 false)
                                                     (
                                                      (g48v2 m) (1 : Int) l1248 l1249
                                                        (fun x1262 l1263 l1264 =>
                                                          (g49v2 m) (1 : Int) l1263 l1264
                                                            (fun x1265 =>
                                                              cond (decide (x1265 < (0 : Int)))
                                                               (
                                                                k1284 false)
                                                               (
                                                                cond (x1265 != x1262)
                                                                 (
                                                                  k1284 false)
                                                                 (
                                                                  (g37 m) m997 m998 m999 m1000 m1001 m1002 m1003 u1004 m1005 u1006
                                                                    (fun l1268 l1269 =>
                                                                      (g51 m) 0 m998 m998 0 m1001 m1001 m998 l1268 m1001 l1269
                                                                        (fun x1270 =>
                                                                          (g39v3 m) l1186 l1187
                                                                            (fun b1271 =>
                                                                              cond (!b1271)
                                                                               (
                                                                                k1284 false)
                                                                               (
                                                                                cond (x1270 != (0 : Int))
                                                                                 (
                                                                                  k1284 false)
                                                                                 (
                                                                                  (g49v2 m) (1 : Int) l1263 l1264
                                                                                    (fun x1274 =>
                                                                                      cond (decide (x1274 < (0 : Int)))
                                                                                       (
                                                                                        k1284 false)
                                                                                       (
                                                                                        cond (x1274 != x1262)
                                                                                         (
                                                                                          k1284 false)
                                                                                         (
                                                                                          k1284 true)))))))
                                                                        (fun l1277 l1278 =>
                                                                          (g39v6 m) l1277 l1278 l1186 l1187
                                                                            (fun b1279 =>
                                                                              cond (!b1279)
                                                                               (
                                                                                k1284 false)
                                                                               (
                                                                                (g49v2 m) (1 : Int) l1263 l1264
                                                                                  (fun x1281 =>
                                                                                    cond (decide (x1281 < (0 : Int)))
                                                                                     (
                                                                                      k1284 false)
                                                                                     (
                                                                                      cond (x1281 != x1262)
                                                                                       (
                                                                                        k1284 false)
                                                                                       (
                                                                                        k1284 true)))))))))))))))))))))))))) := by kernel_rfl

theorem g52l0_s {α : Type} (q : Nat) (v1315 : Int) (m1317 : Nat) (a1318 : List Int) (m1319 : Nat) (a1320 : List Int) (m1321 : Nat) (m1322 : Nat) (m1323 : Nat) (m1324 : Nat) (m1325 : Nat) (m1326 : Nat) (k1332 : (List Int) → Option α) (m : Nat) (v1316 : Int) (a1327 : List Int) : g52l0 (g80 q) v1315 m1317 a1318 m1319 a1320 m1321 m1322 m1323 m1324 m1325 m1326 k1332 (m + 1) v1316 a1327 =
    cond (decide (v1316 < v1315))
     (
      (g80 q) v1316 m1321 m1322 m1323 m1324 m1325 m1326 m1317 a1318 m1319 a1320
        (fun x1329 =>
          if a1327.length + 1 ≤ 67108864 then
            (g52l0 (g80 q) v1315 m1317 a1318 m1319 a1320 m1321 m1322 m1323 m1324 m1325 m1326 k1332 m) (IntKind.wrap .i64 (v1316 + (1 : Int))) (a1327 ++ [x1329])
          else
            none))
     (
      k1332 a1327) := by kernel_rfl
theorem g52l0_z {α : Type} (q : Nat) (v1315 : Int) (m1317 : Nat) (a1318 : List Int) (m1319 : Nat) (a1320 : List Int) (m1321 : Nat) (m1322 : Nat) (m1323 : Nat) (m1324 : Nat) (m1325 : Nat) (m1326 : Nat) (k1332 : (List Int) → Option α) (v1316 : Int) (a1327 : List Int) : g52l0 (g80 q) v1315 m1317 a1318 m1319 a1320 m1321 m1322 m1323 m1324 m1325 m1326 k1332 0 v1316 a1327 = none := by kernel_rfl
theorem g52_o {α : Type} (m : Nat) (m1300 : Nat) (m1301 : Nat) (m1302 : Nat) (m1303 : Nat) (m1304 : Nat) (m1305 : Nat) (p1306 : Int) (m1307 : Nat) (u1308 : List Int) (m1309 : Nat) (u1310 : List Int) (k1335 : Int → (List Int) → Option α) : g52 m m1300 m1301 m1302 m1303 m1304 m1305 p1306 m1307 u1308 m1309 u1310 k1335 =
    (g76 m) m1300 m1301 m1302 m1303 m1304 m1305 m1307 u1308 m1309 u1310
      (fun b1311 =>
        cond (!b1311)
         (
          k1335 (1 : Int) [])
         (
          (g63 m) p1306 (0 : Int) (400 : Int)
            (fun b1313 =>
              cond (!b1313)
               (
                k1335 (2 : Int) [])
               (
                g52l0 (g80 m) p1306 m1307 u1308 m1309 u1310 m1300 m1301 m1302 m1303 m1304 m1305
                  (fun l1334 =>
                    k1335 (0 : Int) l1334)
                  m (0 : Int) [])))) := by kernel_rfl

theorem g53l0_s {α : Type} (q : Nat) (m1357 : Nat) (m1358 : Nat) (m1359 : Nat) (v1360 : Int) (m1362 : Nat) (a1363 : List Int) (m1364 : Nat) (a1365 : List Int) (m1366 : Nat) (m1367 : Nat) (m1368 : Nat) (m1369 : Nat) (m1370 : Nat) (m1371 : Nat) (m1372 : Nat) (k1378 : (List Int) → Option α) (m : Nat) (v1361 : Int) (a1373 : List Int) : g53l0 (g81 q) m1357 m1358 m1359 v1360 m1362 a1363 m1364 a1365 m1366 m1367 m1368 m1369 m1370 m1371 m1372 k1378 (m + 1) v1361 a1373 =
    cond (decide (v1361 < v1360))
     (
      (g81 q) m1366 m1367 m1368 m1369 m1370 m1371 v1361 m1362 a1363 m1364 a1365
        (fun x1375 =>
          if 0 ≤ v1361 ∧ v1361 < (m1358 : Nat) then
            if (m1357 + v1361.toNat) < m1372 then
              (g53l0 (g81 q) m1357 m1358 m1359 v1360 m1362 a1363 m1364 a1365 m1366 m1367 m1368 m1369 m1370 m1371 m1372 k1378 m) (IntKind.wrap .i64 (v1361 + (1 : Int))) (List.set a1373 (m1357 + v1361.toNat) x1375)
            else
              none
          else
            none))
     (
      k1378 a1373) := by kernel_rfl
theorem g53l0_z {α : Type} (q : Nat) (m1357 : Nat) (m1358 : Nat) (m1359 : Nat) (v1360 : Int) (m1362 : Nat) (a1363 : List Int) (m1364 : Nat) (a1365 : List Int) (m1366 : Nat) (m1367 : Nat) (m1368 : Nat) (m1369 : Nat) (m1370 : Nat) (m1371 : Nat) (m1372 : Nat) (k1378 : (List Int) → Option α) (v1361 : Int) (a1373 : List Int) : g53l0 (g81 q) m1357 m1358 m1359 v1360 m1362 a1363 m1364 a1365 m1366 m1367 m1368 m1369 m1370 m1371 m1372 k1378 0 v1361 a1373 = none := by kernel_rfl
theorem g53_o {α : Type} (m : Nat) (m1340 : Nat) (m1341 : Nat) (m1342 : Nat) (m1343 : Nat) (m1344 : Nat) (m1345 : Nat) (p1346 : Int) (m1347 : Nat) (u1348 : List Int) (m1349 : Nat) (u1350 : List Int) (k1381 : Int → Option α) (k1382 : Nat → Nat → Nat → (List Int) → Option α) : g53 m m1340 m1341 m1342 m1343 m1344 m1345 p1346 m1347 u1348 m1349 u1350 k1381 k1382 =
    (g41 m) m1340 m1341 m1342 m1343 m1344 m1345 m1347 u1348 m1349 u1350
      (fun b1351 =>
        cond (!b1351)
         (
          k1381 (1 : Int))
         (
          (g58 m) p1346 (0 : Int) (400 : Int)
            (fun b1353 =>
              cond (!b1353)
               (
                k1381 (2 : Int))
               (
                if p1346 = p1346 ∧ 0 ≤ p1346 ∧ p1346 ≤ 1048576 then
                  let n1355 : Nat := p1346.toNat
                  g53l0 (g81 m) 0 n1355 n1355 ((n1355 : Nat) : Int) m1347 u1348 m1349 u1350 m1340 m1341 m1342 m1343 m1344 m1345 n1355
                    (fun l1380 =>
                      k1382 n1355 n1355 n1355 l1380)
                    m (0 : Int) (List.replicate n1355 (0 : Int))
                else
                  none)))) := by kernel_rfl

theorem g16_o {α : Type} (m : Nat) (m1285 : Nat) (m1286 : Nat) (m1287 : Nat) (m1288 : Nat) (m1289 : Nat) (m1290 : Nat) (p1291 : Int) (m1292 : Nat) (u1293 : List Int) (m1294 : Nat) (u1295 : List Int) (k1453 : Bool → Option α) : g16 m m1285 m1286 m1287 m1288 m1289 m1290 p1291 m1292 u1293 m1294 u1295 k1453 =
    (g35 m) m1285 m1286 m1287 m1288 m1289 m1290 (1048576 : Int) m1292 u1293 m1294 u1295
      (fun x1296 =>
        cond (decide (x1296 < (0 : Int)))
         (
          k1453 true)
         (
          (g37 m) m1285 m1286 m1287 m1288 m1289 m1290 m1292 u1293 m1294 u1295
            (fun l1298 l1299 =>
              (g52 m) 0 m1286 m1286 0 m1289 m1289 p1291 m1286 l1298 m1289 l1299
                (fun x1336 l1337 =>
                  (g37 m) m1285 m1286 m1287 m1288 m1289 m1290 m1292 u1293 m1294 u1295
                    (fun l1338 l1339 =>
                      (g53 m) 0 m1286 m1286 0 m1289 m1289 p1291 m1286 l1338 m1289 l1339
                        (fun x1383 =>
                          (g54v3 m) l1337
                            (fun b1384 =>
                              cond (!b1384)
                               (
                                k1453 false)
                               (
                                cond (x1383 != x1336)
                                 (
                                  k1453 false)
                                 (
                                  (g37 m) m1285 m1286 m1287 m1288 m1289 m1290 m1292 u1293 m1294 u1295
                                    (fun l1387 l1388 =>
                                      (g39 m) 0 m1286 m1286 0 m1289 m1289 0 m1286 m1286 0 m1289 m1289 m1286 l1338 m1289 l1339 m1286 l1387 m1289 l1388
                                        (fun b1389 =>
                                          cond (!b1389)
                                           (
                                            k1453 false)
                                           (
                                            (g48 m) 0 m1286 m1286 0 m1289 m1289 (1 : Int) m1286 l1338 m1289 l1339
                                              (fun x1391 l1392 l1393 =>
                                                cond (decide (x1391 < (0 : Int)))
                                                 (
                                                  k1453 false)
                                                 (
                                                  (g54v3 m) l1337
                                                    (fun b1395 =>
                                                      cond (!b1395)
                                                       (
                                                        k1453 false)
                                                       (
                                                        cond (x1383 != x1336)
                                                         (
                                                          k1453 false)
                                                         (
                                                          (g55v1 m) (1 : Int)
                                                            (
                                                              (g56 m) (1 : Int)
                                                                (
                                                                  (g37 m) m1285 m1286 m1287 m1288 m1289 m1290 m1292 u1293 m1294 u1295
                                                                    (fun l1398 l1399 =>
                                                                      (g53 m) 0 m1286 m1286 0 m1289 m1289 p1291 m1286 l1398 m1289 l1399
                                                                        (fun x1400 =>
                                                                          (g54v3 m) l1337
                                                                            (fun b1401 =>
                                                                              cond (!b1401)
                                                                               (
                                                                                k1453 false)
                                                                               (
                                                                                cond (x1400 != x1336)
                                                                                 (
                                                                                  k1453 false)
                                                                                 (
                                                                                  (g56 m) (1 : Int)
                                                                                    (
                                                                                      k1453 true)))))
                                                                        (fun n1404 n1405 n1406 l1407 =>
                                                                          (g54v4 m) 0 n1404 n1405 n1406 l1407 l1337
                                                                            (fun b1408 =>
                                                                              cond (!b1408)
                                                                               (
                                                                                k1453 false)
                                                                               (
                                                                                cond ((0 : Int) != x1336)
                                                                                 (
                                                                                  k1453 false)
                                                                                 (
                                                                                  (g56 m) (1 : Int)
                                                                                    (
                                                                                      k1453 true))))))))))))))))))))
                        (fun n1411 n1412 n1413 l1414 =>
                          (g54v4 m) 0 n1411 n1412 n1413 l1414 l1337
                            (fun b1415 =>
                              cond (!b1415)
                               (
                                k1453 false)
                               (
                                cond ((0 : Int) != x1336)
                                 (
                                  k1453 false)
                                 (
                                  (g37 m) m1285 m1286 m1287 m1288 m1289 m1290 m1292 u1293 m1294 u1295
                                    (fun l1418 l1419 =>
                                      (g39 m) 0 m1286 m1286 0 m1289 m1289 0 m1286 m1286 0 m1289 m1289 m1286 l1338 m1289 l1339 m1286 l1418 m1289 l1419
                                        (fun b1420 =>
                                          cond (!b1420)
                                           (
                                            k1453 false)
                                           (
                                            (g48 m) 0 m1286 m1286 0 m1289 m1289 (1 : Int) m1286 l1338 m1289 l1339
                                              (fun x1422 l1423 l1424 =>
                                                cond (decide (x1422 < (0 : Int)))
                                                 (
                                                  k1453 false)
                                                 (
                                                  (g54v4 m) 0 n1411 n1412 n1413 l1414 l1337
                                                    (fun b1426 =>
                                                      cond (!b1426)
                                                       (
                                                        k1453 false)
                                                       (
                                                        cond ((0 : Int) != x1336)
                                                         (
                                                          k1453 false)
                                                         (
                                                          (g55 m) 0 n1411 n1412 (1 : Int) n1413 l1414
                                                            (fun x1429 l1430 =>
                                                              (g56v1 m) 0 n1411 n1412 (1 : Int) n1413 l1430
                                                                (fun x1431 =>
                                                                  cond (decide (x1431 < (0 : Int)))
                                                                   (
                                                                    k1453 false)
                                                                   (
                                                                    cond (x1431 != x1429)
                                                                     (
                                                                      k1453 false)
                                                                     (
                                                                      (g37 m) m1285 m1286 m1287 m1288 m1289 m1290 m1292 u1293 m1294 u1295
                                                                        (fun l1434 l1435 =>
                                                                          (g53 m) 0 m1286 m1286 0 m1289 m1289 p1291 m1286 l1434 m1289 l1435
                                                                            (fun x1436 =>
                                                                              (g54v3 m) l1337
                                                                                (fun b1437 =>
                                                                                  cond (!b1437)
                                                                                   (
                                                                                    k1453 false)
                                                                                   (
                                                                                    cond (x1436 != x1336)
                                                                                     (
                                                                                      k1453 false)
                                                                                     (
                                                                                      (g56v1 m) 0 n1411 n1412 (1 : Int) n1413 l1430
                                                                                        (fun x1440 =>
                                                                                          cond (decide (x1440 < (0 : Int)))
                                                                                           (
                                                                                            k1453 false)
                                                                                           (
                                                                                            cond (x1440 != x1429)
                                                                                             (
                                                                                              k1453 false)
                                                                                             (
                                                                                              k1453 true)))))))
                                                                            (fun n1443 n1444 n1445 l1446 =>
                                                                              (g54v4 m) 0 n1443 n1444 n1445 l1446 l1337
                                                                                (fun b1447 =>
                                                                                  cond (!b1447)
                                                                                   (
                                                                                    k1453 false)
                                                                                   (
                                                                                    cond ((0 : Int) != x1336)
                                                                                     (
                                                                                      k1453 false)
                                                                                     (
                                                                                      (g56v1 m) 0 n1411 n1412 (1 : Int) n1413 l1430
                                                                                        (fun x1450 =>
                                                                                          cond (decide (x1450 < (0 : Int)))
                                                                                           (
                                                                                            k1453 false)
                                                                                           (
                                                                                            cond (x1450 != x1429)
                                                                                             (
                                                                                              k1453 false)
                                                                                             (
                                                                                              k1453 true))))))))))))))))))))))))))))) := by kernel_rfl
end Go.Proofs.Ytbpljilgekneoaa.Sx
