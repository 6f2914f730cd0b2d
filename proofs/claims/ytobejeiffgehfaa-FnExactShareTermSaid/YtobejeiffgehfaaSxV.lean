/- Functions. Printed by our own sx.py. -/
import Derived.Test.YtobejeiffgehfaaSxV1
namespace Go.Proofs.Ytobejeiffgehfaa.Sx
open Go
set_option linter.unusedVariables false
set_option maxRecDepth 100000
/-! ### g31v2: laws.heldInt64S -/
def g31v2l0b {α : Type}   (a1383 : List Int) (k1389 : Option α) (k1390 : Int → Option α) (r1391 : Int → Int → Option α) (v1381 : Int) (v1382 : Int) : Option α :=
  cond (decide (v1382 < ((a1383.length : Nat) : Int)))
   (
    if 0 ≤ v1382 ∧ v1382 < (a1383.length : Nat) then
      if v1382.toNat < a1383.length then
        cond ((List.getD a1383 v1382.toNat 0) != v1381)
         (
          k1389)
         (
          r1391 (IntKind.wrap .i64 (v1381 + (1 : Int))) (IntKind.wrap .i64 (v1382 + (1 : Int))))
      else
        none
    else
      none)
   (
    k1390 v1381)
def g31v2l0 {α : Type}   (a1383 : List Int) (k1389 : Option α) (k1390 : Int → Option α) : Nat → Int → Int → Option α
  | 0 => fun _ _ => none
  | m + 1 => fun v1381 v1382 => g31v2l0b a1383 k1389 k1390 (g31v2l0 a1383 k1389 k1390 m) v1381 v1382
def g31v2l0M {α : Type} (m : Nat) : (List Int) → (Option α) → (Int → Option α) → Int → Int → Option α :=
  fun a1383 k1389 k1390 v1381 v1382 => g31v2l0 a1383 k1389 k1390 m v1381 v1382
def g31v2l0D : LoopD := { n := 21, low := [0], sl := [0, 1, 5], bl := [0], tp := [(.vl (.sv (.gsl 0 1))), (.vl (.sv (.int .i64))), (.vl (.sv (.int .i64)))], bp := [(false, [(.gro (.int .i64))])], xs := [(1, [4]), (2, [1])] }
def g31v2l0K {α : Type} (L : (List Int) → (Option α) → (Int → Option α) → Int → Int → Option α) (ls : List Lf) (k : Ex → St → Option α) : Option α :=
  L ((lf ls 2).lst (.int .i64))
    (k .ret (mkSt 21 [4] [(.vl (.sv (.int .i64 (-1 : Int))))] [0] [(false, [(.gro (.int .i64) ((lf ls 2).lst (.int .i64)))])]))
    (fun y0 => k .normal (mkSt 21 [1] [(.vl (.sv (.int .i64 y0)))] [0] [(false, [(.gro (.int .i64) ((lf ls 2).lst (.int .i64)))])]))
    (lf ls 0).int (lf ls 1).int
def g31v2b {α : Type}  (L_g31v2l0 : {α : Type} → (List Int) → (Option α) → (Int → Option α) → Int → Int → Option α) (p1379 : Int) (u1380 : List Int) (k1393 : Int → Option α) : Option α :=
  L_g31v2l0 u1380
    (
      k1393 (-1 : Int))
    (fun x1392 =>
      k1393 x1392)
    p1379 (0 : Int)
def g31v2 {α : Type} (m : Nat) : Int → (List Int) → (Int → Option α) → Option α :=
  g31v2b (g31v2l0M m)
def g31v2tp : List TP := [(.vl (.sv (.gsl 0 1))), (.vl (.sv (.int .i64)))]
def g31v2bp : List BP := [(false, [(.gro (.int .i64))])]
def g31v2K {α : Type} (G : Int → (List Int) → (Int → Option α) → Option α) (ls : List Lf) (k : TV → List (List Seg) → List (List Seg) → Option α) : Option α :=
  G (lf ls 0).int ((lf ls 1).lst (.int .i64))
    (fun y0 => k (.vl (.sv (.int .i64 y0))) [[(.gro (.int .i64) ((lf ls 1).lst (.int .i64)))]] [])
def g31v2hd  (L_g31v2l0 : {α : Type} → (List Int) → (Option α) → (Int → Option α) → Int → Int → Option α) : Hd where
  call := fun f args Bs k => none
  loop := fun id st k => cond (Nat.beq id 0) (loopH g31v2l0D (g31v2l0K L_g31v2l0) st k) (none)
  ro := fun f => []
def g31v2h (m : Nat) : Hd := g31v2hd (g31v2l0M m)
theorem g31v2l0Step  (L_g31v2l0 : {α : Type} → (List Int) → (Option α) → (Int → Option α) → Int → Int → Option α) {α : Type} (L : (List Int) → (Option α) → (Int → Option α) → Int → Int → Option α) (ls : List Lf) (k : Ex → St → Option α) :
    g31v2l0K (fun a1383 k1389 k1390 v1381 v1382 => g31v2l0b a1383 k1389 k1390 (L a1383 k1389 k1390) v1381 v1382) ls k = ev tab (g31v2hd L_g31v2l0) (bodyAt Go.Proofs.Try.f31 0) (atHead g31v2l0D ls) (loopK g31v2l0D 0 (loopH g31v2l0D (g31v2l0K L)) k) := by kernel_rfl
theorem g31v2Main  (L_g31v2l0 : {α : Type} → (List Int) → (Option α) → (Int → Option α) → Int → Int → Option α) {α : Type} (ls : List Lf) (k : TV → List (List Seg) → List (List Seg) → Option α) :
    g31v2K (g31v2b L_g31v2l0) ls k = evFun tab (g31v2hd L_g31v2l0) Go.Proofs.Try.f31 (fillT g31v2tp ls).1 (fillB g31v2bp (fillT g31v2tp ls).2).1 k := by kernel_rfl
theorem g31v2Calls (m : Nat) : (g31v2h m).CallsOk Go.Proofs.Try.prog := cok_nil
theorem g31v2l0Ok (m : Nat) (α : Type) (st : St) (k : Ex → St → Option α) (r : α) (h : (g31v2h m).loop 0 st k = some r) :
    ∃ e st', k e st' = some r ∧ CodeS Go.Proofs.Try.prog (.block 0 (.loop (bodyAt Go.Proofs.Try.f31 0))) st e st' :=
  loop_ok (tab := tab) (h := g31v2h m) (F := fun n ls k => g31v2l0K (fun a1383 k1389 k1390 v1381 v1382 => g31v2l0 a1383 k1389 k1390 n v1381 v1382) ls k) tabOk (g31v2Calls m) mixed (loopsOk_of _ (fun p hp => by rw [show loopsOf (bodyAt Go.Proofs.Try.f31 0) = [] by kernel_rfl] at hp; cases hp))
    (fun _ _ => rfl) (fun n ls k => g31v2l0Step (g31v2l0M m) (fun a1383 k1389 k1390 => g31v2l0 a1383 k1389 k1390 n) ls k) (n := m) h
theorem g31v2Fn (m : Nat) : FnOk Go.Proofs.Try.prog 31 g31v2tp g31v2bp (fun {α} => g31v2K (g31v2 (α := α) m)) :=
  fn_ok (tab := tab) (h := g31v2h m) (fn := Go.Proofs.Try.f31) (F := fun {α} => g31v2K (g31v2 (α := α) m)) tabOk (g31v2Calls m) mixed (by kernel_rfl) (by kernel_rfl) (fun c hc => by
    rw [bodyOf_some hc]
    exact loopsOk_of _ (fun p hp => by
    rw [show loopsOf (bodyOf Go.Proofs.Try.f31) = [(0, bodyAt Go.Proofs.Try.f31 0)] by kernel_rfl] at hp
    simp only [List.mem_cons, List.not_mem_nil, or_false] at hp
    rcases hp with rfl
    exact g31v2l0Ok m))
    (fun α ls k => g31v2Main (g31v2l0M m) ls k)
theorem g31v2Ok (m : Nat) : RowOk Go.Proofs.Try.prog 31 (fun {α} => rowK g31v2tp g31v2bp (g31v2K (g31v2 (α := α) m))) := row_of (g31v2Fn m)

/-! ### g7: laws.FnExactReachOf -/
def g7b {α : Type} (G_g11 : {α : Type} → Nat → Nat → Nat → Int → Nat → (List (List Int)) → (Int → Option α) → Option α) (G_g13 : {α : Type} → Nat → Nat → Nat → Nat → (List (List Int)) → ((List (List Int)) → Option α) → Option α) (G_g26 : {α : Type} → Nat → Nat → Nat → Int → Nat → (List (List Int)) → (Int → (List Int) → Option α) → Option α) (G_g27 : {α : Type} → Nat → Nat → Nat → Int → Nat → (List (List Int)) → (Int → Option α) → ((List Int) → Option α) → Option α) (G_g28 : {α : Type} → (List Int) → (Bool → Option α) → Option α) (G_g15v1 : {α : Type} → Nat → Nat → Nat → Nat → Nat → Nat → Nat → (List (List Int)) → Nat → (List (List Int)) → (Bool → Option α) → Option α) (G_g29 : {α : Type} → Nat → Nat → Nat → Int → Nat → (List (List Int)) → (Int → (List (List Int)) → Option α) → Option α) (G_g30 : {α : Type} → Int → (Option α) → Option α) (G_g31 : {α : Type} → Int → (Option α) → Option α) (G_g28v4 : {α : Type} → (List Int) → (List Int) → (Bool → Option α) → Option α) (G_g30v2 : {α : Type} → Int → (List Int) → (Int → (List Int) → Option α) → Option α) (G_g31v2 : {α : Type} → Int → (List Int) → (Int → Option α) → Option α)  (m1083 : Nat) (m1084 : Nat) (m1085 : Nat) (p1086 : Int) (m1087 : Nat) (u1088 : List (List Int)) (k1412 : Bool → Option α) : Option α :=
  G_g11 m1083 m1084 m1085 (1048576 : Int) m1087 u1088
    (fun x1089 =>
      cond (decide (x1089 < (0 : Int)))
       (
        k1412 true)
       (
        G_g13 m1083 m1084 m1085 m1087 u1088
          (fun l1091 =>
            G_g26 0 m1084 m1084 p1086 m1084 l1091
              (fun x1183 l1184 =>
                G_g13 m1083 m1084 m1085 m1087 u1088
                  (fun l1185 =>
                    G_g27 0 m1084 m1084 p1086 m1084 l1185
                      (fun x1313 =>
                        G_g28 l1184
                          (fun b1314 =>
                            cond (!b1314)
                             (
                              k1412 false)
                             (
                              cond (x1313 != x1183)
                               (
                                k1412 false)
                               (
                                G_g13 m1083 m1084 m1085 m1087 u1088
                                  (fun l1317 =>
                                    G_g15v1 0 m1084 m1084 0 m1084 m1084 m1084 l1185 m1084 l1317
                                      (fun b1318 =>
                                        cond (!b1318)
                                         (
                                          k1412 false)
                                         (
                                          G_g29 0 m1084 m1084 (1 : Int) m1084 l1185
                                            (fun x1320 l1321 =>
                                              cond (decide (x1320 < (0 : Int)))
                                               (
                                                k1412 false)
                                               (
                                                G_g28 l1184
                                                  (fun b1323 =>
                                                    cond (!b1323)
                                                     (
                                                      k1412 false)
                                                     (
                                                      cond (x1313 != x1183)
                                                       (
                                                        k1412 false)
                                                       (
                                                        G_g30 (1 : Int)
                                                          (
                                                            G_g31 (1 : Int)
                                                              (
                                                                G_g13 m1083 m1084 m1085 m1087 u1088
                                                                  (fun l1326 =>
                                                                    G_g27 0 m1084 m1084 p1086 m1084 l1326
                                                                      (fun x1327 =>
                                                                        G_g28 l1184
                                                                          (fun b1328 =>
                                                                            cond (!b1328)
                                                                             (
                                                                              k1412 false)
                                                                             (
                                                                              cond (x1327 != x1183)
                                                                               (
                                                                                k1412 false)
                                                                               (
                                                                                G_g31 (1 : Int)
                                                                                  (
                                                                                    k1412 true)))))
                                                                      (fun l1331 =>
                                                                        G_g28v4 l1331 l1184
                                                                          (fun b1347 =>
                                                                            cond (!b1347)
                                                                             (
                                                                              k1412 false)
                                                                             (
                                                                              cond ((0 : Int) != x1183)
                                                                               (
                                                                                k1412 false)
                                                                               (
                                                                                G_g31 (1 : Int)
                                                                                  (
                                                                                    k1412 true))))))))))))))))))))
                      (fun l1350 =>
                        G_g28v4 l1350 l1184
                          (fun b1351 =>
                            cond (!b1351)
                             (
                              k1412 false)
                             (
                              cond ((0 : Int) != x1183)
                               (
                                k1412 false)
                               (
                                G_g13 m1083 m1084 m1085 m1087 u1088
                                  (fun l1354 =>
                                    G_g15v1 0 m1084 m1084 0 m1084 m1084 m1084 l1185 m1084 l1354
                                      (fun b1355 =>
                                        cond (!b1355)
                                         (
                                          k1412 false)
                                         (
                                          G_g29 0 m1084 m1084 (1 : Int) m1084 l1185
                                            (fun x1357 l1358 =>
                                              cond (decide (x1357 < (0 : Int)))
                                               (
                                                k1412 false)
                                               (
                                                G_g28v4 l1350 l1184
                                                  (fun b1360 =>
                                                    cond (!b1360)
                                                     (
                                                      k1412 false)
                                                     (
                                                      cond ((0 : Int) != x1183)
                                                       (
                                                        k1412 false)
                                                       (
                                                        G_g30v2 (1 : Int) l1350
                                                          (fun x1377 l1378 =>
                                                            G_g31v2 (1 : Int) l1378
                                                              (fun x1394 =>
                                                                cond (decide (x1394 < (0 : Int)))
                                                                 (
                                                                  k1412 false)
                                                                 (
                                                                  cond (x1394 != x1377)
                                                                   (
                                                                    k1412 false)
                                                                   (
                                                                    G_g13 m1083 m1084 m1085 m1087 u1088
                                                                      (fun l1397 =>
                                                                        G_g27 0 m1084 m1084 p1086 m1084 l1397
                                                                          (fun x1398 =>
                                                                            G_g28 l1184
                                                                              (fun b1399 =>
                                                                                cond (!b1399)
                                                                                 (
                                                                                  k1412 false)
                                                                                 (
                                                                                  cond (x1398 != x1183)
                                                                                   (
                                                                                    k1412 false)
                                                                                   (
                                                                                    G_g31v2 (1 : Int) l1378
                                                                                      (fun x1402 =>
                                                                                        cond (decide (x1402 < (0 : Int)))
                                                                                         (
                                                                                          k1412 false)
                                                                                         (
                                                                                          cond (x1402 != x1377)
                                                                                           (
                                                                                            k1412 false)
                                                                                           (
                                                                                            k1412 true)))))))
                                                                          (fun l1405 =>
                                                                            G_g28v4 l1405 l1184
                                                                              (fun b1406 =>
                                                                                cond (!b1406)
                                                                                 (
                                                                                  k1412 false)
                                                                                 (
                                                                                  cond ((0 : Int) != x1183)
                                                                                   (
                                                                                    k1412 false)
                                                                                   (
                                                                                    G_g31v2 (1 : Int) l1378
                                                                                      (fun x1409 =>
                                                                                        cond (decide (x1409 < (0 : Int)))
                                                                                         (
                                                                                          k1412 false)
                                                                                         (
                                                                                          cond (x1409 != x1377)
                                                                                           (
                                                                                            k1412 false)
                                                                                           (
                                                                                            k1412 true)))))))))))))))))))))))))))))
def g7 {α : Type} (m : Nat) : Nat → Nat → Nat → Int → Nat → (List (List Int)) → (Bool → Option α) → Option α :=
  g7b (g11 m) (g13 m) (g26 m) (g27 m) (g28 m) (g15v1 m) (g29 m) (g30 m) (g31 m) (g28v4 m) (g30v2 m) (g31v2 m)
def g7tp : List TP := [(.vl (.sv (.sla 0 0 5))), (.vl (.sv (.int .i64)))]
def g7bp : List BP := [(false, [(.seqv (.rc [.i8, .i16, .i16, .i64, .i64]))])]
def g7K {α : Type} (G : Nat → Nat → Nat → Int → Nat → (List (List Int)) → (Bool → Option α) → Option α) (ls : List Lf) (k : TV → List (List Seg) → List (List Seg) → Option α) : Option α :=
  G (lf ls 0).nat (lf ls 1).nat (lf ls 2).nat (lf ls 3).int (lf ls 4).nat ((lf ls 5).lst (.rc [.i8, .i16, .i16, .i64, .i64]))
    (fun y0 => k (.vl (.sv (.bool y0))) [[(.seq (.rc [.i8, .i16, .i16, .i64, .i64]) (lf ls 4).nat ((lf ls 5).lst (.rc [.i8, .i16, .i16, .i64, .i64])))]] [])
def g7hd (G_g11 : {α : Type} → Nat → Nat → Nat → Int → Nat → (List (List Int)) → (Int → Option α) → Option α) (G_g13 : {α : Type} → Nat → Nat → Nat → Nat → (List (List Int)) → ((List (List Int)) → Option α) → Option α) (G_g26 : {α : Type} → Nat → Nat → Nat → Int → Nat → (List (List Int)) → (Int → (List Int) → Option α) → Option α) (G_g27 : {α : Type} → Nat → Nat → Nat → Int → Nat → (List (List Int)) → (Int → Option α) → ((List Int) → Option α) → Option α) (G_g28 : {α : Type} → (List Int) → (Bool → Option α) → Option α) (G_g15v1 : {α : Type} → Nat → Nat → Nat → Nat → Nat → Nat → Nat → (List (List Int)) → Nat → (List (List Int)) → (Bool → Option α) → Option α) (G_g29 : {α : Type} → Nat → Nat → Nat → Int → Nat → (List (List Int)) → (Int → (List (List Int)) → Option α) → Option α) (G_g30 : {α : Type} → Int → (Option α) → Option α) (G_g31 : {α : Type} → Int → (Option α) → Option α) (G_g28v4 : {α : Type} → (List Int) → (List Int) → (Bool → Option α) → Option α) (G_g30v2 : {α : Type} → Int → (List Int) → (Int → (List Int) → Option α) → Option α) (G_g31v2 : {α : Type} → Int → (List Int) → (Int → Option α) → Option α)  : Hd where
  call := fun f args Bs k => cond (Nat.beq f 11) (rowK g11tp g11bp (g11K G_g11) args Bs k) (cond (Nat.beq f 13) (rowK g13tp g13bp (g13K G_g13) args Bs k) (cond (Nat.beq f 26) (rowK g26tp g26bp (g26K G_g26) args Bs k) (cond (Nat.beq f 27) (rowK g27tp g27bp (g27K G_g27) args Bs k) (cond (Nat.beq f 28) (rowE g28tp g28bp (g28K G_g28) (rowK g28v4tp g28v4bp (g28v4K G_g28v4)) args Bs k) (cond (Nat.beq f 15) (rowK g15v1tp g15v1bp (g15v1K G_g15v1) args Bs k) (cond (Nat.beq f 29) (rowK g29tp g29bp (g29K G_g29) args Bs k) (cond (Nat.beq f 30) (rowE g30tp g30bp (g30K G_g30) (rowK g30v2tp g30v2bp (g30v2K G_g30v2)) args Bs k) (cond (Nat.beq f 31) (rowE g31tp g31bp (g31K G_g31) (rowK g31v2tp g31v2bp (g31v2K G_g31v2)) args Bs k) (none)))))))))
  loop := fun id st k => none
  ro := fun f => cond (Nat.beq f 11) [0] (cond (Nat.beq f 13) [0] (cond (Nat.beq f 15) [0, 1] (cond (Nat.beq f 26) [0] (cond (Nat.beq f 27) [0] (cond (Nat.beq f 28) [0, 1] (cond (Nat.beq f 31) [0] ([])))))))
def g7h (m : Nat) : Hd := g7hd (g11 m) (g13 m) (g26 m) (g27 m) (g28 m) (g15v1 m) (g29 m) (g30 m) (g31 m) (g28v4 m) (g30v2 m) (g31v2 m)
theorem g7Main (G_g11 : {α : Type} → Nat → Nat → Nat → Int → Nat → (List (List Int)) → (Int → Option α) → Option α) (G_g13 : {α : Type} → Nat → Nat → Nat → Nat → (List (List Int)) → ((List (List Int)) → Option α) → Option α) (G_g26 : {α : Type} → Nat → Nat → Nat → Int → Nat → (List (List Int)) → (Int → (List Int) → Option α) → Option α) (G_g27 : {α : Type} → Nat → Nat → Nat → Int → Nat → (List (List Int)) → (Int → Option α) → ((List Int) → Option α) → Option α) (G_g28 : {α : Type} → (List Int) → (Bool → Option α) → Option α) (G_g15v1 : {α : Type} → Nat → Nat → Nat → Nat → Nat → Nat → Nat → (List (List Int)) → Nat → (List (List Int)) → (Bool → Option α) → Option α) (G_g29 : {α : Type} → Nat → Nat → Nat → Int → Nat → (List (List Int)) → (Int → (List (List Int)) → Option α) → Option α) (G_g30 : {α : Type} → Int → (Option α) → Option α) (G_g31 : {α : Type} → Int → (Option α) → Option α) (G_g28v4 : {α : Type} → (List Int) → (List Int) → (Bool → Option α) → Option α) (G_g30v2 : {α : Type} → Int → (List Int) → (Int → (List Int) → Option α) → Option α) (G_g31v2 : {α : Type} → Int → (List Int) → (Int → Option α) → Option α)  {α : Type} (ls : List Lf) (k : TV → List (List Seg) → List (List Seg) → Option α) :
    g7K (g7b G_g11 G_g13 G_g26 G_g27 G_g28 G_g15v1 G_g29 G_g30 G_g31 G_g28v4 G_g30v2 G_g31v2) ls k = evFun tab (g7hd G_g11 G_g13 G_g26 G_g27 G_g28 G_g15v1 G_g29 G_g30 G_g31 G_g28v4 G_g30v2 G_g31v2) Go.Proofs.Try.f7 (fillT g7tp ls).1 (fillB g7bp (fillT g7tp ls).2).1 k := by kernel_rfl
theorem g7Calls (m : Nat) : (g7h m).CallsOk Go.Proofs.Try.prog := (cok_cons (g11Ok m) (cok_cons (g13Ok m) (cok_cons (g26Ok m) (cok_cons (g27Ok m) (cok_cons (row_else (g28Ok m) (g28v4Ok m)) (cok_cons (g15v1Ok m) (cok_cons (g29Ok m) (cok_cons (row_else (g30Ok m) (g30v2Ok m)) (cok_cons (row_else (g31Ok m) (g31v2Ok m)) cok_nil)))))))))
theorem g7Fn (m : Nat) : FnOk Go.Proofs.Try.prog 7 g7tp g7bp (fun {α} => g7K (g7 (α := α) m)) :=
  fn_ok (tab := tab) (h := g7h m) (fn := Go.Proofs.Try.f7) (F := fun {α} => g7K (g7 (α := α) m)) tabOk (g7Calls m) mixed (by kernel_rfl) (by kernel_rfl) (fun c hc => by
    rw [bodyOf_some hc]
    exact loopsOk_of _ (fun p hp => by rw [show loopsOf (bodyOf Go.Proofs.Try.f7) = [] by kernel_rfl] at hp; cases hp))
    (fun α ls k => g7Main (g11 m) (g13 m) (g26 m) (g27 m) (g28 m) (g15v1 m) (g29 m) (g30 m) (g31 m) (g28v4 m) (g30v2 m) (g31v2 m) ls k)
theorem g7Ok (m : Nat) : RowOk Go.Proofs.Try.prog 7 (fun {α} => rowK g7tp g7bp (g7K (g7 (α := α) m))) := row_of (g7Fn m)

/-! ### g37: spec.PruneTerm -/
def g37l0b {α : Type} (G_g75v1 : {α : Type} → Int → Int → Int → Int → Int → Nat → Nat → Nat → Nat → (List Int) → (Int → Int → Option α) → Option α)  (m1432 : Nat) (m1433 : Nat) (m1434 : Nat) (m1435 : Nat) (m1436 : Nat) (m1437 : Nat) (m1439 : Nat) (a1440 : List (List Int)) (a1441 : List Int) (m1442 : Nat) (k1458 : (List (List Int)) → Option α) (r1459 : Int → (List Int) → (List (List Int)) → Option α) (v1438 : Int) (a1443 : List Int) (a1444 : List (List Int)) : Option α :=
  cond (decide (v1438 < ((a1441.length : Nat) : Int)))
   (
    if 0 ≤ v1438 ∧ v1438 < (a1441.length : Nat) then
      if v1438.toNat < a1441.length then
        let x1446 : Int := List.getD a1441 v1438.toNat 0
        if 0 ≤ x1446 ∧ x1446 < (m1436 : Nat) then
          if (m1435 + x1446.toNat) < m1442 then
            let l1447 : List Int := List.set a1443 (m1435 + x1446.toNat) v1438
            if 0 ≤ v1438 ∧ v1438 < (a1441.length : Nat) then
              if v1438.toNat < a1441.length then
                let x1448 : Int := List.getD a1441 v1438.toNat 0
                if 0 ≤ x1448 ∧ x1448 < (m1433 : Nat) then
                  if (m1432 + x1448.toNat) < m1439 then
                    let x1449 : Int := (List.getD a1440 (m1432 + x1448.toNat) []).headD 0
                    let x1452 : Int := (List.getD a1440 (m1432 + x1448.toNat) []).tail.tail.tail.headD 0
                    let x1453 : Int := (List.getD a1440 (m1432 + x1448.toNat) []).tail.tail.tail.tail.headD 0
                    G_g75v1 x1449 ((List.getD a1440 (m1432 + x1448.toNat) []).tail.headD 0) ((List.getD a1440 (m1432 + x1448.toNat) []).tail.tail.headD 0) x1452 x1453 m1435 m1436 m1437 m1442 l1447
                      (fun x1454 x1455 =>
                        if a1444.length + 1 ≤ 67108864 then
                          r1459 (IntKind.wrap .i64 (v1438 + (1 : Int))) l1447 (a1444 ++ [[x1449, x1454, x1455, x1452, x1453]])
                        else
                          none)
                  else
                    none
                else
                  none
              else
                none
            else
              none
          else
            none
        else
          none
      else
        none
    else
      none)
   (
    k1458 a1444)
def g37l0 {α : Type} (G_g75v1 : {α : Type} → Int → Int → Int → Int → Int → Nat → Nat → Nat → Nat → (List Int) → (Int → Int → Option α) → Option α)  (m1432 : Nat) (m1433 : Nat) (m1434 : Nat) (m1435 : Nat) (m1436 : Nat) (m1437 : Nat) (m1439 : Nat) (a1440 : List (List Int)) (a1441 : List Int) (m1442 : Nat) (k1458 : (List (List Int)) → Option α) : Nat → Int → (List Int) → (List (List Int)) → Option α
  | 0 => fun _ _ _ => none
  | m + 1 => fun v1438 a1443 a1444 => g37l0b G_g75v1 m1432 m1433 m1434 m1435 m1436 m1437 m1439 a1440 a1441 m1442 k1458 (g37l0 G_g75v1 m1432 m1433 m1434 m1435 m1436 m1437 m1439 a1440 a1441 m1442 k1458 m) v1438 a1443 a1444
def g37l0M {α : Type} (m : Nat) : Nat → Nat → Nat → Nat → Nat → Nat → Nat → (List (List Int)) → (List Int) → Nat → ((List (List Int)) → Option α) → Int → (List Int) → (List (List Int)) → Option α :=
  fun m1432 m1433 m1434 m1435 m1436 m1437 m1439 a1440 a1441 m1442 k1458 v1438 a1443 a1444 => g37l0 (g75v1 m) m1432 m1433 m1434 m1435 m1436 m1437 m1439 a1440 a1441 m1442 k1458 m v1438 a1443 a1444
def g37l0D : LoopD := { n := 51, low := [0], sl := [0, 7, 8, 9, 10], bl := [0, 1000001, 1000002, 1000003], tp := [(.vl (.sv (.slc 0 0 5))), (.vl (.sv (.gsl 1000001 1))), (.vl (.sv (.slc 1000002 0 1))), (.vl (.sv (.gsl 1000003 5))), (.vl (.sv (.int .i64)))], bp := [(false, [(.seqv (.rc [.i8, .i16, .i16, .i64, .i64]))]), (true, [(.gro (.int .i64))]), (true, [(.seqv (.int .i64))]), (true, [(.gro (.rc [.i8, .i16, .i16, .i64, .i64]))])], xs := [(2, [9])] }
def g37l0K {α : Type} (L : Nat → Nat → Nat → Nat → Nat → Nat → Nat → (List (List Int)) → (List Int) → Nat → ((List (List Int)) → Option α) → Int → (List Int) → (List (List Int)) → Option α) (ls : List Lf) (k : Ex → St → Option α) : Option α :=
  L (lf ls 0).nat (lf ls 1).nat (lf ls 2).nat (lf ls 3).nat (lf ls 4).nat (lf ls 5).nat (lf ls 7).nat ((lf ls 8).lst (.rc [.i8, .i16, .i16, .i64, .i64])) ((lf ls 9).lst (.int .i64)) (lf ls 10).nat
    (fun y2 => k .normal (mkSt 51 [9] [(.vl (.sv (.gsl 1000001 5)))] [0, 1000001] [(false, [(.seq (.rc [.i8, .i16, .i16, .i64, .i64]) (lf ls 7).nat ((lf ls 8).lst (.rc [.i8, .i16, .i16, .i64, .i64])))]), (true, [(.gro (.rc [.i8, .i16, .i16, .i64, .i64]) y2)])]))
    (lf ls 6).int ((lf ls 11).lst (.int .i64)) ((lf ls 12).lst (.rc [.i8, .i16, .i16, .i64, .i64]))
def g37b {α : Type} (G_g71 : {α : Type} → Nat → Nat → Nat → Int → Int → Nat → (List (List Int)) → (Int → Option α) → Option α) (G_g72 : {α : Type} → Nat → Nat → Nat → Int → Nat → (List (List Int)) → ((List Int) → Option α) → Option α) (G_g75v1 : {α : Type} → Int → Int → Int → Int → Int → Nat → Nat → Nat → Nat → (List Int) → (Int → Int → Option α) → Option α) (L_g37l0 : {α : Type} → Nat → Nat → Nat → Nat → Nat → Nat → Nat → (List (List Int)) → (List Int) → Nat → ((List (List Int)) → Option α) → Int → (List Int) → (List (List Int)) → Option α) (m1422 : Nat) (m1423 : Nat) (m1424 : Nat) (p1425 : Int) (m1426 : Nat) (u1427 : List (List Int)) (k1461 : Int → (List (List Int)) → Option α) : Option α :=
  G_g71 m1422 m1423 m1424 p1425 (0 : Int) m1426 u1427
    (fun x1428 =>
      cond (x1428 != (0 : Int))
       (
        k1461 x1428 [])
       (
        G_g72 m1422 m1423 m1424 p1425 m1426 u1427
          (fun l1430 =>
            if ((m1423 : Nat) : Int) = ((m1423 : Nat) : Int) ∧ 0 ≤ ((m1423 : Nat) : Int) ∧ ((m1423 : Nat) : Int) ≤ 1048576 then
              L_g37l0 m1422 m1423 m1424 0 m1423 m1423 m1426 u1427 l1430 m1423
                (fun l1460 =>
                  k1461 (0 : Int) l1460)
                (0 : Int) (List.replicate m1423 (0 : Int)) []
            else
              none)))
def g37 {α : Type} (m : Nat) : Nat → Nat → Nat → Int → Nat → (List (List Int)) → (Int → (List (List Int)) → Option α) → Option α :=
  g37b (g71 m) (g72 m) (g75v1 m) (g37l0M m)
def g37tp : List TP := [(.vl (.sv (.slc 0 0 5))), (.vl (.sv (.int .i64)))]
def g37bp : List BP := [(false, [(.seqv (.rc [.i8, .i16, .i16, .i64, .i64]))])]
def g37K {α : Type} (G : Nat → Nat → Nat → Int → Nat → (List (List Int)) → (Int → (List (List Int)) → Option α) → Option α) (ls : List Lf) (k : TV → List (List Seg) → List (List Seg) → Option α) : Option α :=
  G (lf ls 0).nat (lf ls 1).nat (lf ls 2).nat (lf ls 3).int (lf ls 4).nat ((lf ls 5).lst (.rc [.i8, .i16, .i16, .i64, .i64]))
    (fun y0 y3 => k (.tup [(.sv (.gsl 1 5)), (.sv (.int .i64 y0))]) [[(.seq (.rc [.i8, .i16, .i16, .i64, .i64]) (lf ls 4).nat ((lf ls 5).lst (.rc [.i8, .i16, .i16, .i64, .i64])))]] [[(.gro (.rc [.i8, .i16, .i16, .i64, .i64]) y3)]])
def g37hd (G_g71 : {α : Type} → Nat → Nat → Nat → Int → Int → Nat → (List (List Int)) → (Int → Option α) → Option α) (G_g72 : {α : Type} → Nat → Nat → Nat → Int → Nat → (List (List Int)) → ((List Int) → Option α) → Option α) (G_g75v1 : {α : Type} → Int → Int → Int → Int → Int → Nat → Nat → Nat → Nat → (List Int) → (Int → Int → Option α) → Option α) (L_g37l0 : {α : Type} → Nat → Nat → Nat → Nat → Nat → Nat → Nat → (List (List Int)) → (List Int) → Nat → ((List (List Int)) → Option α) → Int → (List Int) → (List (List Int)) → Option α) : Hd where
  call := fun f args Bs k => cond (Nat.beq f 71) (rowK g71tp g71bp (g71K G_g71) args Bs k) (cond (Nat.beq f 72) (rowK g72tp g72bp (g72K G_g72) args Bs k) (cond (Nat.beq f 75) (rowK g75v1tp g75v1bp (g75v1K G_g75v1) args Bs k) (none)))
  loop := fun id st k => cond (Nat.beq id 0) (loopH g37l0D (g37l0K L_g37l0) st k) (none)
  ro := fun f => cond (Nat.beq f 71) [0] (cond (Nat.beq f 72) [0] (cond (Nat.beq f 75) [0] ([])))
def g37h (m : Nat) : Hd := g37hd (g71 m) (g72 m) (g75v1 m) (g37l0M m)
theorem g37l0Step (G_g71 : {α : Type} → Nat → Nat → Nat → Int → Int → Nat → (List (List Int)) → (Int → Option α) → Option α) (G_g72 : {α : Type} → Nat → Nat → Nat → Int → Nat → (List (List Int)) → ((List Int) → Option α) → Option α) (G_g75v1 : {α : Type} → Int → Int → Int → Int → Int → Nat → Nat → Nat → Nat → (List Int) → (Int → Int → Option α) → Option α) (L_g37l0 : {α : Type} → Nat → Nat → Nat → Nat → Nat → Nat → Nat → (List (List Int)) → (List Int) → Nat → ((List (List Int)) → Option α) → Int → (List Int) → (List (List Int)) → Option α) {α : Type} (L : Nat → Nat → Nat → Nat → Nat → Nat → Nat → (List (List Int)) → (List Int) → Nat → ((List (List Int)) → Option α) → Int → (List Int) → (List (List Int)) → Option α) (ls : List Lf) (k : Ex → St → Option α) :
    g37l0K (fun m1432 m1433 m1434 m1435 m1436 m1437 m1439 a1440 a1441 m1442 k1458 v1438 a1443 a1444 => g37l0b G_g75v1 m1432 m1433 m1434 m1435 m1436 m1437 m1439 a1440 a1441 m1442 k1458 (L m1432 m1433 m1434 m1435 m1436 m1437 m1439 a1440 a1441 m1442 k1458) v1438 a1443 a1444) ls k = ev tab (g37hd G_g71 G_g72 G_g75v1 L_g37l0) (bodyAt Go.Proofs.Try.f37 0) (atHead g37l0D ls) (loopK g37l0D 0 (loopH g37l0D (g37l0K L)) k) := by kernel_rfl
theorem g37Main (G_g71 : {α : Type} → Nat → Nat → Nat → Int → Int → Nat → (List (List Int)) → (Int → Option α) → Option α) (G_g72 : {α : Type} → Nat → Nat → Nat → Int → Nat → (List (List Int)) → ((List Int) → Option α) → Option α) (G_g75v1 : {α : Type} → Int → Int → Int → Int → Int → Nat → Nat → Nat → Nat → (List Int) → (Int → Int → Option α) → Option α) (L_g37l0 : {α : Type} → Nat → Nat → Nat → Nat → Nat → Nat → Nat → (List (List Int)) → (List Int) → Nat → ((List (List Int)) → Option α) → Int → (List Int) → (List (List Int)) → Option α) {α : Type} (ls : List Lf) (k : TV → List (List Seg) → List (List Seg) → Option α) :
    g37K (g37b G_g71 G_g72 G_g75v1 L_g37l0) ls k = evFun tab (g37hd G_g71 G_g72 G_g75v1 L_g37l0) Go.Proofs.Try.f37 (fillT g37tp ls).1 (fillB g37bp (fillT g37tp ls).2).1 k := by kernel_rfl
theorem g37Calls (m : Nat) : (g37h m).CallsOk Go.Proofs.Try.prog := (cok_cons (g71Ok m) (cok_cons (g72Ok m) (cok_cons (g75v1Ok m) cok_nil)))
theorem g37l0Ok (m : Nat) (α : Type) (st : St) (k : Ex → St → Option α) (r : α) (h : (g37h m).loop 0 st k = some r) :
    ∃ e st', k e st' = some r ∧ CodeS Go.Proofs.Try.prog (.block 0 (.loop (bodyAt Go.Proofs.Try.f37 0))) st e st' :=
  loop_ok (tab := tab) (h := g37h m) (F := fun n ls k => g37l0K (fun m1432 m1433 m1434 m1435 m1436 m1437 m1439 a1440 a1441 m1442 k1458 v1438 a1443 a1444 => g37l0 (g75v1 m) m1432 m1433 m1434 m1435 m1436 m1437 m1439 a1440 a1441 m1442 k1458 n v1438 a1443 a1444) ls k) tabOk (g37Calls m) mixed (loopsOk_of _ (fun p hp => by rw [show loopsOf (bodyAt Go.Proofs.Try.f37 0) = [] by kernel_rfl] at hp; cases hp))
    (fun _ _ => rfl) (fun n ls k => g37l0Step (g71 m) (g72 m) (g75v1 m) (g37l0M m) (fun m1432 m1433 m1434 m1435 m1436 m1437 m1439 a1440 a1441 m1442 k1458 => g37l0 (g75v1 m) m1432 m1433 m1434 m1435 m1436 m1437 m1439 a1440 a1441 m1442 k1458 n) ls k) (n := m) h
theorem g37Fn (m : Nat) : FnOk Go.Proofs.Try.prog 37 g37tp g37bp (fun {α} => g37K (g37 (α := α) m)) :=
  fn_ok (tab := tab) (h := g37h m) (fn := Go.Proofs.Try.f37) (F := fun {α} => g37K (g37 (α := α) m)) tabOk (g37Calls m) mixed (by kernel_rfl) (by kernel_rfl) (fun c hc => by
    rw [bodyOf_some hc]
    exact loopsOk_of _ (fun p hp => by
    rw [show loopsOf (bodyOf Go.Proofs.Try.f37) = [(0, bodyAt Go.Proofs.Try.f37 0)] by kernel_rfl] at hp
    simp only [List.mem_cons, List.not_mem_nil, or_false] at hp
    rcases hp with rfl
    exact g37l0Ok m))
    (fun α ls k => g37Main (g71 m) (g72 m) (g75v1 m) (g37l0M m) ls k)
theorem g37Ok (m : Nat) : RowOk Go.Proofs.Try.prog 37 (fun {α} => rowK g37tp g37bp (g37K (g37 (α := α) m))) := row_of (g37Fn m)

/-! ### g80: impl.PruneTerm$1 -/
def g80b {α : Type}   (p1515 : Int) (m1516 : Nat) (m1517 : Nat) (m1518 : Nat) (m1519 : Nat) (u1520 : List Int) (k1522 : Int → Option α) : Option α :=
  if 0 ≤ p1515 ∧ p1515 < (m1517 : Nat) then
    if (m1516 + p1515.toNat) < m1519 then
      k1522 (List.getD u1520 (m1516 + p1515.toNat) 0)
    else
      none
  else
    none
def g80 {α : Type} (m : Nat) : Int → Nat → Nat → Nat → Nat → (List Int) → (Int → Option α) → Option α :=
  g80b
def g80tp : List TP := [(.vl (.sv (.int .i16))), (.vl (.sv (.ptr 0 0)))]
def g80bp : List BP := [(false, [(.one (.slc 1 0 1))]), (false, [(.seqv (.int .i16))])]
def g80K {α : Type} (G : Int → Nat → Nat → Nat → Nat → (List Int) → (Int → Option α) → Option α) (ls : List Lf) (k : TV → List (List Seg) → List (List Seg) → Option α) : Option α :=
  G (lf ls 0).int (lf ls 1).nat (lf ls 2).nat (lf ls 3).nat (lf ls 4).nat ((lf ls 5).lst (.int .i16))
    (fun y0 => k (.vl (.sv (.int .i16 y0))) [[(.one (.slc 1 0 1 (lf ls 1).nat (lf ls 2).nat (lf ls 3).nat))], [(.seq (.int .i16) (lf ls 4).nat ((lf ls 5).lst (.int .i16)))]] [])
def g80hd   : Hd where
  call := fun f args Bs k => none
  loop := fun id st k => none
  ro := fun f => []
def g80h (m : Nat) : Hd := g80hd
theorem g80Main   {α : Type} (ls : List Lf) (k : TV → List (List Seg) → List (List Seg) → Option α) :
    g80K (g80b) ls k = evFun tab (g80hd) Go.Proofs.Try.f80 (fillT g80tp ls).1 (fillB g80bp (fillT g80tp ls).2).1 k := by kernel_rfl
theorem g80Calls (m : Nat) : (g80h m).CallsOk Go.Proofs.Try.prog := cok_nil
theorem g80Fn (m : Nat) : FnOk Go.Proofs.Try.prog 80 g80tp g80bp (fun {α} => g80K (g80 (α := α) m)) :=
  fn_ok (tab := tab) (h := g80h m) (fn := Go.Proofs.Try.f80) (F := fun {α} => g80K (g80 (α := α) m)) tabOk (g80Calls m) mixed (by kernel_rfl) (by kernel_rfl) (fun c hc => by
    rw [bodyOf_some hc]
    exact loopsOk_of _ (fun p hp => by rw [show loopsOf (bodyOf Go.Proofs.Try.f80) = [] by kernel_rfl] at hp; cases hp))
    (fun α ls k => g80Main ls k)
theorem g80Ok (m : Nat) : RowOk Go.Proofs.Try.prog 80 (fun {α} => rowK g80tp g80bp (g80K (g80 (α := α) m))) := row_of (g80Fn m)

/-! ### g77v2: impl.moved -/
def g77v2b {α : Type} (G_g43 : {α : Type} → Int → (Bool → Bool → Bool → Option α) → Option α) (G_g80 : {α : Type} → Int → Nat → Nat → Nat → Nat → (List Int) → (Int → Option α) → Option α)  (p1502 : Int) (p1503 : Int) (p1504 : Int) (p1505 : Int) (p1506 : Int) (m1507 : Nat) (m1508 : Nat) (m1509 : Nat) (m1510 : Nat) (u1511 : List Int) (k1526 : Int → Int → Option α) : Option α :=
  G_g43 p1502
    (fun b1512 b1513 b1514 =>
      cond b1512
       (
        G_g80 p1503 m1507 m1508 m1509 m1510 u1511
          (fun x1523 =>
            cond b1513
             (
              G_g80 p1504 m1507 m1508 m1509 m1510 u1511
                (fun x1524 =>
                  k1526 x1523 x1524))
             (
              k1526 x1523 p1504)))
       (
        cond b1513
         (
          G_g80 p1504 m1507 m1508 m1509 m1510 u1511
            (fun x1525 =>
              k1526 p1503 x1525))
         (
          k1526 p1503 p1504)))
def g77v2 {α : Type} (m : Nat) : Int → Int → Int → Int → Int → Nat → Nat → Nat → Nat → (List Int) → (Int → Int → Option α) → Option α :=
  g77v2b (g43 m) (g80 m)
def g77v2tp : List TP := [(.vl (.agg [(.one (.int .i8)), (.one (.int .i16)), (.one (.int .i16)), (.one (.int .i64)), (.one (.int .i64))])), (.vl (.sv (.clo 80 [(0, 0)])))]
def g77v2bp : List BP := [(false, [(.one (.slc 1 0 1))]), (false, [(.seqv (.int .i16))])]
def g77v2K {α : Type} (G : Int → Int → Int → Int → Int → Nat → Nat → Nat → Nat → (List Int) → (Int → Int → Option α) → Option α) (ls : List Lf) (k : TV → List (List Seg) → List (List Seg) → Option α) : Option α :=
  G (lf ls 0).int (lf ls 1).int (lf ls 2).int (lf ls 3).int (lf ls 4).int (lf ls 5).nat (lf ls 6).nat (lf ls 7).nat (lf ls 8).nat ((lf ls 9).lst (.int .i16))
    (fun y1 y2 => k (.vl (.agg [(.one (.int .i8 (lf ls 0).int)), (.one (.int .i16 y1)), (.one (.int .i16 y2)), (.one (.int .i64 (lf ls 3).int)), (.one (.int .i64 (lf ls 4).int))])) [[(.one (.slc 1 0 1 (lf ls 5).nat (lf ls 6).nat (lf ls 7).nat))], [(.seq (.int .i16) (lf ls 8).nat ((lf ls 9).lst (.int .i16)))]] [])
def g77v2hd (G_g43 : {α : Type} → Int → (Bool → Bool → Bool → Option α) → Option α) (G_g80 : {α : Type} → Int → Nat → Nat → Nat → Nat → (List Int) → (Int → Option α) → Option α)  : Hd where
  call := fun f args Bs k => cond (Nat.beq f 43) (rowK g43tp g43bp (g43K G_g43) args Bs k) (cond (Nat.beq f 80) (rowK g80tp g80bp (g80K G_g80) args Bs k) (none))
  loop := fun id st k => none
  ro := fun f => cond (Nat.beq f 80) [0, 1] ([])
def g77v2h (m : Nat) : Hd := g77v2hd (g43 m) (g80 m)
theorem g77v2Main (G_g43 : {α : Type} → Int → (Bool → Bool → Bool → Option α) → Option α) (G_g80 : {α : Type} → Int → Nat → Nat → Nat → Nat → (List Int) → (Int → Option α) → Option α)  {α : Type} (ls : List Lf) (k : TV → List (List Seg) → List (List Seg) → Option α) :
    g77v2K (g77v2b G_g43 G_g80) ls k = evFun tab (g77v2hd G_g43 G_g80) Go.Proofs.Try.f77 (fillT g77v2tp ls).1 (fillB g77v2bp (fillT g77v2tp ls).2).1 k := by kernel_rfl
theorem g77v2Calls (m : Nat) : (g77v2h m).CallsOk Go.Proofs.Try.prog := (cok_cons (g43Ok m) (cok_cons (g80Ok m) cok_nil))
theorem g77v2Fn (m : Nat) : FnOk Go.Proofs.Try.prog 77 g77v2tp g77v2bp (fun {α} => g77v2K (g77v2 (α := α) m)) :=
  fn_ok (tab := tab) (h := g77v2h m) (fn := Go.Proofs.Try.f77) (F := fun {α} => g77v2K (g77v2 (α := α) m)) tabOk (g77v2Calls m) mixed (by kernel_rfl) (by kernel_rfl) (fun c hc => by
    rw [bodyOf_some hc]
    exact loopsOk_of _ (fun p hp => by rw [show loopsOf (bodyOf Go.Proofs.Try.f77) = [] by kernel_rfl] at hp; cases hp))
    (fun α ls k => g77v2Main (g43 m) (g80 m) ls k)
theorem g77v2Ok (m : Nat) : RowOk Go.Proofs.Try.prog 77 (fun {α} => rowK g77v2tp g77v2bp (g77v2K (g77v2 (α := α) m))) := row_of (g77v2Fn m)

/-! ### g38: impl.PruneTerm -/
def g38l0b {α : Type} (G_g77v2 : {α : Type} → Int → Int → Int → Int → Int → Nat → Nat → Nat → Nat → (List Int) → (Int → Int → Option α) → Option α)  (m1475 : Nat) (m1476 : Nat) (m1477 : Nat) (m1478 : Nat) (m1479 : Nat) (m1480 : Nat) (v1481 : Int) (m1483 : Nat) (a1484 : List (List Int)) (m1486 : Nat) (m1487 : Nat) (m1488 : Nat) (m1489 : Nat) (a1490 : List Bool) (m1491 : Nat) (k1532 : (List (List Int)) → Option α) (r1533 : Int → (List (List Int)) → (List Int) → Option α) (v1482 : Int) (a1485 : List (List Int)) (a1492 : List Int) : Option α :=
  cond (decide (v1482 < v1481))
   (
    if 0 ≤ v1482 ∧ v1482 < (m1479 : Nat) then
      if (m1478 + v1482.toNat) < m1489 then
        cond (List.getD a1490 (m1478 + v1482.toNat) false)
         (
          if 0 ≤ v1482 ∧ v1482 < (m1487 : Nat) then
            if (m1486 + v1482.toNat) < m1491 then
              let l1496 : List Int := List.set a1492 (m1486 + v1482.toNat) (IntKind.wrap .i16 ((a1485.length : Nat) : Int))
              if 0 ≤ v1482 ∧ v1482 < (m1476 : Nat) then
                if (m1475 + v1482.toNat) < m1483 then
                  let x1497 : Int := (List.getD a1484 (m1475 + v1482.toNat) []).headD 0
                  let x1500 : Int := (List.getD a1484 (m1475 + v1482.toNat) []).tail.tail.tail.headD 0
                  let x1501 : Int := (List.getD a1484 (m1475 + v1482.toNat) []).tail.tail.tail.tail.headD 0
                  G_g77v2 x1497 ((List.getD a1484 (m1475 + v1482.toNat) []).tail.headD 0) ((List.getD a1484 (m1475 + v1482.toNat) []).tail.tail.headD 0) x1500 x1501 m1486 m1487 m1488 m1491 l1496
                    (fun x1527 x1528 =>
                      if a1485.length + 1 ≤ 67108864 then
                        r1533 (IntKind.wrap .i64 (v1482 + (1 : Int))) (a1485 ++ [[x1497, x1527, x1528, x1500, x1501]]) l1496
                      else
                        none)
                else
                  none
              else
                none
            else
              none
          else
            none)
         (
          r1533 (IntKind.wrap .i64 (v1482 + (1 : Int))) a1485 a1492)
      else
        none
    else
      none)
   (
    k1532 a1485)
def g38l0 {α : Type} (G_g77v2 : {α : Type} → Int → Int → Int → Int → Int → Nat → Nat → Nat → Nat → (List Int) → (Int → Int → Option α) → Option α)  (m1475 : Nat) (m1476 : Nat) (m1477 : Nat) (m1478 : Nat) (m1479 : Nat) (m1480 : Nat) (v1481 : Int) (m1483 : Nat) (a1484 : List (List Int)) (m1486 : Nat) (m1487 : Nat) (m1488 : Nat) (m1489 : Nat) (a1490 : List Bool) (m1491 : Nat) (k1532 : (List (List Int)) → Option α) : Nat → Int → (List (List Int)) → (List Int) → Option α
  | 0 => fun _ _ _ => none
  | m + 1 => fun v1482 a1485 a1492 => g38l0b G_g77v2 m1475 m1476 m1477 m1478 m1479 m1480 v1481 m1483 a1484 m1486 m1487 m1488 m1489 a1490 m1491 k1532 (g38l0 G_g77v2 m1475 m1476 m1477 m1478 m1479 m1480 v1481 m1483 a1484 m1486 m1487 m1488 m1489 a1490 m1491 k1532 m) v1482 a1485 a1492
def g38l0M {α : Type} (m : Nat) : Nat → Nat → Nat → Nat → Nat → Nat → Int → Nat → (List (List Int)) → Nat → Nat → Nat → Nat → (List Bool) → Nat → ((List (List Int)) → Option α) → Int → (List (List Int)) → (List Int) → Option α :=
  fun m1475 m1476 m1477 m1478 m1479 m1480 v1481 m1483 a1484 m1486 m1487 m1488 m1489 a1490 m1491 k1532 v1482 a1485 a1492 => g38l0 (g77v2 m) m1475 m1476 m1477 m1478 m1479 m1480 v1481 m1483 a1484 m1486 m1487 m1488 m1489 a1490 m1491 k1532 m v1482 a1485 a1492
def g38l0D : LoopD := { n := 53, low := [0], sl := [0, 8, 9, 28, 29, 30], bl := [0, 1000001, 1000002, 1000003, 1000004], tp := [(.vl (.sv (.slc 0 0 5))), (.vl (.sv (.gsl 1000001 5))), (.vl (.sv (.ptr 1000002 0))), (.vl (.sv (.slc 1000003 0 1))), (.vl (.sv (.int .i64))), (.vl (.sv (.int .i64)))], bp := [(false, [(.seqv (.rc [.i8, .i16, .i16, .i64, .i64]))]), (true, [(.gro (.rc [.i8, .i16, .i16, .i64, .i64]))]), (true, [(.one (.slc 1000004 0 1))]), (true, [(.seqv .bool)]), (true, [(.seqv (.int .i16))])], xs := [(2, [8])] }
def g38l0K {α : Type} (L : Nat → Nat → Nat → Nat → Nat → Nat → Int → Nat → (List (List Int)) → Nat → Nat → Nat → Nat → (List Bool) → Nat → ((List (List Int)) → Option α) → Int → (List (List Int)) → (List Int) → Option α) (ls : List Lf) (k : Ex → St → Option α) : Option α :=
  L (lf ls 0).nat (lf ls 1).nat (lf ls 2).nat (lf ls 3).nat (lf ls 4).nat (lf ls 5).nat (lf ls 6).int (lf ls 8).nat ((lf ls 9).lst (.rc [.i8, .i16, .i16, .i64, .i64])) (lf ls 11).nat (lf ls 12).nat (lf ls 13).nat (lf ls 14).nat ((lf ls 15).lst .bool) (lf ls 16).nat
    (fun y2 => k .normal (mkSt 53 [8] [(.vl (.sv (.gsl 1000001 5)))] [0, 1000001] [(false, [(.seq (.rc [.i8, .i16, .i16, .i64, .i64]) (lf ls 8).nat ((lf ls 9).lst (.rc [.i8, .i16, .i16, .i64, .i64])))]), (true, [(.gro (.rc [.i8, .i16, .i16, .i64, .i64]) y2)])]))
    (lf ls 7).int ((lf ls 10).lst (.rc [.i8, .i16, .i16, .i64, .i64])) ((lf ls 17).lst (.int .i16))
def g38b {α : Type} (G_g73 : {α : Type} → Nat → Nat → Nat → Int → Int → Nat → Nat → Nat → Nat → (List (List Int)) → (List Int) → (Int → Option α) → (Option α) → Option α) (G_g74 : {α : Type} → Nat → Nat → Nat → Int → Nat → (List (List Int)) → ((List Bool) → Option α) → Option α) (G_g77v2 : {α : Type} → Int → Int → Int → Int → Int → Nat → Nat → Nat → Nat → (List Int) → (Int → Int → Option α) → Option α) (L_g38l0 : {α : Type} → Nat → Nat → Nat → Nat → Nat → Nat → Int → Nat → (List (List Int)) → Nat → Nat → Nat → Nat → (List Bool) → Nat → ((List (List Int)) → Option α) → Int → (List (List Int)) → (List Int) → Option α) (m1465 : Nat) (m1466 : Nat) (m1467 : Nat) (p1468 : Int) (m1469 : Nat) (u1470 : List (List Int)) (k1538 : Int → Option α) (k1539 : (List (List Int)) → Option α) : Option α :=
  G_g73 m1465 m1466 m1467 (0 : Int) (0 : Int) 0 1 1 m1469 u1470 [p1468]
    (fun x1471 =>
      cond (x1471 != (0 : Int))
       (
        k1538 x1471)
       (
        if ((m1466 : Nat) : Int) = ((m1466 : Nat) : Int) ∧ 0 ≤ ((m1466 : Nat) : Int) ∧ ((m1466 : Nat) : Int) ≤ 1048576 then
          G_g74 m1465 m1466 m1467 p1468 m1469 u1470
            (fun l1474 =>
              L_g38l0 m1465 m1466 m1467 0 m1466 m1466 ((m1466 : Nat) : Int) m1469 u1470 0 m1466 m1466 m1466 l1474 m1466
                (fun l1534 =>
                  k1539 l1534)
                (0 : Int) [] (List.replicate m1466 (0 : Int)))
        else
          none))
    (
      if ((m1466 : Nat) : Int) = ((m1466 : Nat) : Int) ∧ 0 ≤ ((m1466 : Nat) : Int) ∧ ((m1466 : Nat) : Int) ≤ 1048576 then
        G_g74 m1465 m1466 m1467 p1468 m1469 u1470
          (fun l1536 =>
            L_g38l0 m1465 m1466 m1467 0 m1466 m1466 ((m1466 : Nat) : Int) m1469 u1470 0 m1466 m1466 m1466 l1536 m1466
              (fun l1537 =>
                k1539 l1537)
              (0 : Int) [] (List.replicate m1466 (0 : Int)))
      else
        none)
def g38 {α : Type} (m : Nat) : Nat → Nat → Nat → Int → Nat → (List (List Int)) → (Int → Option α) → ((List (List Int)) → Option α) → Option α :=
  g38b (g73 m) (g74 m) (g77v2 m) (g38l0M m)
def g38tp : List TP := [(.vl (.sv (.slc 0 0 5))), (.vl (.sv (.int .i64)))]
def g38bp : List BP := [(false, [(.seqv (.rc [.i8, .i16, .i16, .i64, .i64]))])]
def g38K {α : Type} (G : Nat → Nat → Nat → Int → Nat → (List (List Int)) → (Int → Option α) → ((List (List Int)) → Option α) → Option α) (ls : List Lf) (k : TV → List (List Seg) → List (List Seg) → Option α) : Option α :=
  G (lf ls 0).nat (lf ls 1).nat (lf ls 2).nat (lf ls 3).int (lf ls 4).nat ((lf ls 5).lst (.rc [.i8, .i16, .i16, .i64, .i64]))
    (fun y0 => k (.tup [(.sv .nils), (.sv (.int .i64 y0))]) [[(.seq (.rc [.i8, .i16, .i16, .i64, .i64]) (lf ls 4).nat ((lf ls 5).lst (.rc [.i8, .i16, .i16, .i64, .i64])))]] [])
    (fun y3 => k (.tup [(.sv (.gsl 1 5)), (.sv (.int .i64 (0 : Int)))]) [[(.seq (.rc [.i8, .i16, .i16, .i64, .i64]) (lf ls 4).nat ((lf ls 5).lst (.rc [.i8, .i16, .i16, .i64, .i64])))]] [[(.gro (.rc [.i8, .i16, .i16, .i64, .i64]) y3)]])
def g38hd (G_g73 : {α : Type} → Nat → Nat → Nat → Int → Int → Nat → Nat → Nat → Nat → (List (List Int)) → (List Int) → (Int → Option α) → (Option α) → Option α) (G_g74 : {α : Type} → Nat → Nat → Nat → Int → Nat → (List (List Int)) → ((List Bool) → Option α) → Option α) (G_g77v2 : {α : Type} → Int → Int → Int → Int → Int → Nat → Nat → Nat → Nat → (List Int) → (Int → Int → Option α) → Option α) (L_g38l0 : {α : Type} → Nat → Nat → Nat → Nat → Nat → Nat → Int → Nat → (List (List Int)) → Nat → Nat → Nat → Nat → (List Bool) → Nat → ((List (List Int)) → Option α) → Int → (List (List Int)) → (List Int) → Option α) : Hd where
  call := fun f args Bs k => cond (Nat.beq f 73) (rowK g73tp g73bp (g73K G_g73) args Bs k) (cond (Nat.beq f 74) (rowK g74tp g74bp (g74K G_g74) args Bs k) (cond (Nat.beq f 77) (rowK g77v2tp g77v2bp (g77v2K G_g77v2) args Bs k) (none)))
  loop := fun id st k => cond (Nat.beq id 0) (loopH g38l0D (g38l0K L_g38l0) st k) (none)
  ro := fun f => cond (Nat.beq f 73) [0, 1] (cond (Nat.beq f 74) [0] (cond (Nat.beq f 77) [0, 1] ([])))
def g38h (m : Nat) : Hd := g38hd (g73 m) (g74 m) (g77v2 m) (g38l0M m)
theorem g38l0Step (G_g73 : {α : Type} → Nat → Nat → Nat → Int → Int → Nat → Nat → Nat → Nat → (List (List Int)) → (List Int) → (Int → Option α) → (Option α) → Option α) (G_g74 : {α : Type} → Nat → Nat → Nat → Int → Nat → (List (List Int)) → ((List Bool) → Option α) → Option α) (G_g77v2 : {α : Type} → Int → Int → Int → Int → Int → Nat → Nat → Nat → Nat → (List Int) → (Int → Int → Option α) → Option α) (L_g38l0 : {α : Type} → Nat → Nat → Nat → Nat → Nat → Nat → Int → Nat → (List (List Int)) → Nat → Nat → Nat → Nat → (List Bool) → Nat → ((List (List Int)) → Option α) → Int → (List (List Int)) → (List Int) → Option α) {α : Type} (L : Nat → Nat → Nat → Nat → Nat → Nat → Int → Nat → (List (List Int)) → Nat → Nat → Nat → Nat → (List Bool) → Nat → ((List (List Int)) → Option α) → Int → (List (List Int)) → (List Int) → Option α) (ls : List Lf) (k : Ex → St → Option α) :
    g38l0K (fun m1475 m1476 m1477 m1478 m1479 m1480 v1481 m1483 a1484 m1486 m1487 m1488 m1489 a1490 m1491 k1532 v1482 a1485 a1492 => g38l0b G_g77v2 m1475 m1476 m1477 m1478 m1479 m1480 v1481 m1483 a1484 m1486 m1487 m1488 m1489 a1490 m1491 k1532 (L m1475 m1476 m1477 m1478 m1479 m1480 v1481 m1483 a1484 m1486 m1487 m1488 m1489 a1490 m1491 k1532) v1482 a1485 a1492) ls k = ev tab (g38hd G_g73 G_g74 G_g77v2 L_g38l0) (bodyAt Go.Proofs.Try.f38 0) (atHead g38l0D ls) (loopK g38l0D 0 (loopH g38l0D (g38l0K L)) k) := by kernel_rfl
theorem g38Main (G_g73 : {α : Type} → Nat → Nat → Nat → Int → Int → Nat → Nat → Nat → Nat → (List (List Int)) → (List Int) → (Int → Option α) → (Option α) → Option α) (G_g74 : {α : Type} → Nat → Nat → Nat → Int → Nat → (List (List Int)) → ((List Bool) → Option α) → Option α) (G_g77v2 : {α : Type} → Int → Int → Int → Int → Int → Nat → Nat → Nat → Nat → (List Int) → (Int → Int → Option α) → Option α) (L_g38l0 : {α : Type} → Nat → Nat → Nat → Nat → Nat → Nat → Int → Nat → (List (List Int)) → Nat → Nat → Nat → Nat → (List Bool) → Nat → ((List (List Int)) → Option α) → Int → (List (List Int)) → (List Int) → Option α) {α : Type} (ls : List Lf) (k : TV → List (List Seg) → List (List Seg) → Option α) :
    g38K (g38b G_g73 G_g74 G_g77v2 L_g38l0) ls k = evFun tab (g38hd G_g73 G_g74 G_g77v2 L_g38l0) Go.Proofs.Try.f38 (fillT g38tp ls).1 (fillB g38bp (fillT g38tp ls).2).1 k := by kernel_rfl
theorem g38Calls (m : Nat) : (g38h m).CallsOk Go.Proofs.Try.prog := (cok_cons (g73Ok m) (cok_cons (g74Ok m) (cok_cons (g77v2Ok m) cok_nil)))
theorem g38l0Ok (m : Nat) (α : Type) (st : St) (k : Ex → St → Option α) (r : α) (h : (g38h m).loop 0 st k = some r) :
    ∃ e st', k e st' = some r ∧ CodeS Go.Proofs.Try.prog (.block 0 (.loop (bodyAt Go.Proofs.Try.f38 0))) st e st' :=
  loop_ok (tab := tab) (h := g38h m) (F := fun n ls k => g38l0K (fun m1475 m1476 m1477 m1478 m1479 m1480 v1481 m1483 a1484 m1486 m1487 m1488 m1489 a1490 m1491 k1532 v1482 a1485 a1492 => g38l0 (g77v2 m) m1475 m1476 m1477 m1478 m1479 m1480 v1481 m1483 a1484 m1486 m1487 m1488 m1489 a1490 m1491 k1532 n v1482 a1485 a1492) ls k) tabOk (g38Calls m) mixed (loopsOk_of _ (fun p hp => by rw [show loopsOf (bodyAt Go.Proofs.Try.f38 0) = [] by kernel_rfl] at hp; cases hp))
    (fun _ _ => rfl) (fun n ls k => g38l0Step (g73 m) (g74 m) (g77v2 m) (g38l0M m) (fun m1475 m1476 m1477 m1478 m1479 m1480 v1481 m1483 a1484 m1486 m1487 m1488 m1489 a1490 m1491 k1532 => g38l0 (g77v2 m) m1475 m1476 m1477 m1478 m1479 m1480 v1481 m1483 a1484 m1486 m1487 m1488 m1489 a1490 m1491 k1532 n) ls k) (n := m) h
theorem g38Fn (m : Nat) : FnOk Go.Proofs.Try.prog 38 g38tp g38bp (fun {α} => g38K (g38 (α := α) m)) :=
  fn_ok (tab := tab) (h := g38h m) (fn := Go.Proofs.Try.f38) (F := fun {α} => g38K (g38 (α := α) m)) tabOk (g38Calls m) mixed (by kernel_rfl) (by kernel_rfl) (fun c hc => by
    rw [bodyOf_some hc]
    exact loopsOk_of _ (fun p hp => by
    rw [show loopsOf (bodyOf Go.Proofs.Try.f38) = [(0, bodyAt Go.Proofs.Try.f38 0)] by kernel_rfl] at hp
    simp only [List.mem_cons, List.not_mem_nil, or_false] at hp
    rcases hp with rfl
    exact g38l0Ok m))
    (fun α ls k => g38Main (g73 m) (g74 m) (g77v2 m) (g38l0M m) ls k)
theorem g38Ok (m : Nat) : RowOk Go.Proofs.Try.prog 38 (fun {α} => rowK g38tp g38bp (g38K (g38 (α := α) m))) := row_of (g38Fn m)

/-! ### g10: laws.FnExactPruneTerm -/
def g10b {α : Type} (G_g11 : {α : Type} → Nat → Nat → Nat → Int → Nat → (List (List Int)) → (Int → Option α) → Option α) (G_g13 : {α : Type} → Nat → Nat → Nat → Nat → (List (List Int)) → ((List (List Int)) → Option α) → Option α) (G_g37 : {α : Type} → Nat → Nat → Nat → Int → Nat → (List (List Int)) → (Int → (List (List Int)) → Option α) → Option α) (G_g38 : {α : Type} → Nat → Nat → Nat → Int → Nat → (List (List Int)) → (Int → Option α) → ((List (List Int)) → Option α) → Option α) (G_g15 : {α : Type} → (List (List Int)) → (Bool → Option α) → Option α) (G_g15v1 : {α : Type} → Nat → Nat → Nat → Nat → Nat → Nat → Nat → (List (List Int)) → Nat → (List (List Int)) → (Bool → Option α) → Option α) (G_g29 : {α : Type} → Nat → Nat → Nat → Int → Nat → (List (List Int)) → (Int → (List (List Int)) → Option α) → Option α) (G_g29v1 : {α : Type} → Int → (Option α) → Option α) (G_g34 : {α : Type} → Int → (Option α) → Option α) (G_g15v2 : {α : Type} → (List (List Int)) → (List (List Int)) → (Bool → Option α) → Option α) (G_g29v2 : {α : Type} → Int → (List (List Int)) → (Int → (List (List Int)) → Option α) → Option α) (G_g34v1 : {α : Type} → Int → (List (List Int)) → (Int → Option α) → Option α)  (m1413 : Nat) (m1414 : Nat) (m1415 : Nat) (p1416 : Int) (m1417 : Nat) (u1418 : List (List Int)) (k1595 : Bool → Option α) : Option α :=
  G_g11 m1413 m1414 m1415 (1048576 : Int) m1417 u1418
    (fun x1419 =>
      cond (decide (x1419 < (0 : Int)))
       (
        k1595 true)
       (
        G_g13 m1413 m1414 m1415 m1417 u1418
          (fun l1421 =>
            G_g37 0 m1414 m1414 p1416 m1414 l1421
              (fun x1462 l1463 =>
                G_g13 m1413 m1414 m1415 m1417 u1418
                  (fun l1464 =>
                    G_g38 0 m1414 m1414 p1416 m1414 l1464
                      (fun x1540 =>
                        G_g15 l1463
                          (fun b1541 =>
                            cond (!b1541)
                             (
                              k1595 false)
                             (
                              cond (x1540 != x1462)
                               (
                                k1595 false)
                               (
                                G_g13 m1413 m1414 m1415 m1417 u1418
                                  (fun l1544 =>
                                    G_g15v1 0 m1414 m1414 0 m1414 m1414 m1414 l1464 m1414 l1544
                                      (fun b1545 =>
                                        cond (!b1545)
                                         (
                                          k1595 false)
                                         (
                                          G_g29 0 m1414 m1414 (1 : Int) m1414 l1464
                                            (fun x1547 l1548 =>
                                              cond (decide (x1547 < (0 : Int)))
                                               (
                                                k1595 false)
                                               (
                                                G_g15 l1463
                                                  (fun b1550 =>
                                                    cond (!b1550)
                                                     (
                                                      k1595 false)
                                                     (
                                                      cond (x1540 != x1462)
                                                       (
                                                        k1595 false)
                                                       (
                                                        G_g29v1 (1 : Int)
                                                          (
                                                            G_g34 (1 : Int)
                                                              (
                                                                G_g13 m1413 m1414 m1415 m1417 u1418
                                                                  (fun l1553 =>
                                                                    G_g38 0 m1414 m1414 p1416 m1414 l1553
                                                                      (fun x1554 =>
                                                                        G_g15 l1463
                                                                          (fun b1555 =>
                                                                            cond (!b1555)
                                                                             (
                                                                              k1595 false)
                                                                             (
                                                                              cond (x1554 != x1462)
                                                                               (
                                                                                k1595 false)
                                                                               (
                                                                                G_g34 (1 : Int)
                                                                                  (
                                                                                    k1595 true)))))
                                                                      (fun l1558 =>
                                                                        G_g15v2 l1558 l1463
                                                                          (fun b1559 =>
                                                                            cond (!b1559)
                                                                             (
                                                                              k1595 false)
                                                                             (
                                                                              cond ((0 : Int) != x1462)
                                                                               (
                                                                                k1595 false)
                                                                               (
                                                                                G_g34 (1 : Int)
                                                                                  (
                                                                                    k1595 true))))))))))))))))))))
                      (fun l1562 =>
                        G_g15v2 l1562 l1463
                          (fun b1563 =>
                            cond (!b1563)
                             (
                              k1595 false)
                             (
                              cond ((0 : Int) != x1462)
                               (
                                k1595 false)
                               (
                                G_g13 m1413 m1414 m1415 m1417 u1418
                                  (fun l1566 =>
                                    G_g15v1 0 m1414 m1414 0 m1414 m1414 m1414 l1464 m1414 l1566
                                      (fun b1567 =>
                                        cond (!b1567)
                                         (
                                          k1595 false)
                                         (
                                          G_g29 0 m1414 m1414 (1 : Int) m1414 l1464
                                            (fun x1569 l1570 =>
                                              cond (decide (x1569 < (0 : Int)))
                                               (
                                                k1595 false)
                                               (
                                                G_g15v2 l1562 l1463
                                                  (fun b1572 =>
                                                    cond (!b1572)
                                                     (
                                                      k1595 false)
                                                     (
                                                      cond ((0 : Int) != x1462)
                                                       (
                                                        k1595 false)
                                                       (
                                                        G_g29v2 (1 : Int) l1562
                                                          (fun x1575 l1576 =>
                                                            G_g34v1 (1 : Int) l1576
                                                              (fun x1577 =>
                                                                cond (decide (x1577 < (0 : Int)))
                                                                 (
                                                                  k1595 false)
                                                                 (
                                                                  cond (x1577 != x1575)
                                                                   (
                                                                    k1595 false)
                                                                   (
                                                                    G_g13 m1413 m1414 m1415 m1417 u1418
                                                                      (fun l1580 =>
                                                                        G_g38 0 m1414 m1414 p1416 m1414 l1580
                                                                          (fun x1581 =>
                                                                            G_g15 l1463
                                                                              (fun b1582 =>
                                                                                cond (!b1582)
                                                                                 (
                                                                                  k1595 false)
                                                                                 (
                                                                                  cond (x1581 != x1462)
                                                                                   (
                                                                                    k1595 false)
                                                                                   (
                                                                                    G_g34v1 (1 : Int) l1576
                                                                                      (fun x1585 =>
                                                                                        cond (decide (x1585 < (0 : Int)))
                                                                                         (
                                                                                          k1595 false)
                                                                                         (
                                                                                          cond (x1585 != x1575)
                                                                                           (
                                                                                            k1595 false)
                                                                                           (
                                                                                            k1595 true)))))))
                                                                          (fun l1588 =>
                                                                            G_g15v2 l1588 l1463
                                                                              (fun b1589 =>
                                                                                cond (!b1589)
                                                                                 (
                                                                                  k1595 false)
                                                                                 (
                                                                                  cond ((0 : Int) != x1462)
                                                                                   (
                                                                                    k1595 false)
                                                                                   (
                                                                                    G_g34v1 (1 : Int) l1576
                                                                                      (fun x1592 =>
                                                                                        cond (decide (x1592 < (0 : Int)))
                                                                                         (
                                                                                          k1595 false)
                                                                                         (
                                                                                          cond (x1592 != x1575)
                                                                                           (
                                                                                            k1595 false)
                                                                                           (
                                                                                            k1595 true)))))))))))))))))))))))))))))
def g10 {α : Type} (m : Nat) : Nat → Nat → Nat → Int → Nat → (List (List Int)) → (Bool → Option α) → Option α :=
  g10b (g11 m) (g13 m) (g37 m) (g38 m) (g15 m) (g15v1 m) (g29 m) (g29v1 m) (g34 m) (g15v2 m) (g29v2 m) (g34v1 m)
def g10tp : List TP := [(.vl (.sv (.sla 0 0 5))), (.vl (.sv (.int .i64)))]
def g10bp : List BP := [(false, [(.seqv (.rc [.i8, .i16, .i16, .i64, .i64]))])]
def g10K {α : Type} (G : Nat → Nat → Nat → Int → Nat → (List (List Int)) → (Bool → Option α) → Option α) (ls : List Lf) (k : TV → List (List Seg) → List (List Seg) → Option α) : Option α :=
  G (lf ls 0).nat (lf ls 1).nat (lf ls 2).nat (lf ls 3).int (lf ls 4).nat ((lf ls 5).lst (.rc [.i8, .i16, .i16, .i64, .i64]))
    (fun y0 => k (.vl (.sv (.bool y0))) [[(.seq (.rc [.i8, .i16, .i16, .i64, .i64]) (lf ls 4).nat ((lf ls 5).lst (.rc [.i8, .i16, .i16, .i64, .i64])))]] [])
def g10hd (G_g11 : {α : Type} → Nat → Nat → Nat → Int → Nat → (List (List Int)) → (Int → Option α) → Option α) (G_g13 : {α : Type} → Nat → Nat → Nat → Nat → (List (List Int)) → ((List (List Int)) → Option α) → Option α) (G_g37 : {α : Type} → Nat → Nat → Nat → Int → Nat → (List (List Int)) → (Int → (List (List Int)) → Option α) → Option α) (G_g38 : {α : Type} → Nat → Nat → Nat → Int → Nat → (List (List Int)) → (Int → Option α) → ((List (List Int)) → Option α) → Option α) (G_g15 : {α : Type} → (List (List Int)) → (Bool → Option α) → Option α) (G_g15v1 : {α : Type} → Nat → Nat → Nat → Nat → Nat → Nat → Nat → (List (List Int)) → Nat → (List (List Int)) → (Bool → Option α) → Option α) (G_g29 : {α : Type} → Nat → Nat → Nat → Int → Nat → (List (List Int)) → (Int → (List (List Int)) → Option α) → Option α) (G_g29v1 : {α : Type} → Int → (Option α) → Option α) (G_g34 : {α : Type} → Int → (Option α) → Option α) (G_g15v2 : {α : Type} → (List (List Int)) → (List (List Int)) → (Bool → Option α) → Option α) (G_g29v2 : {α : Type} → Int → (List (List Int)) → (Int → (List (List Int)) → Option α) → Option α) (G_g34v1 : {α : Type} → Int → (List (List Int)) → (Int → Option α) → Option α)  : Hd where
  call := fun f args Bs k => cond (Nat.beq f 11) (rowK g11tp g11bp (g11K G_g11) args Bs k) (cond (Nat.beq f 13) (rowK g13tp g13bp (g13K G_g13) args Bs k) (cond (Nat.beq f 37) (rowK g37tp g37bp (g37K G_g37) args Bs k) (cond (Nat.beq f 38) (rowK g38tp g38bp (g38K G_g38) args Bs k) (cond (Nat.beq f 15) (rowE g15tp g15bp (g15K G_g15) (rowE g15v1tp g15v1bp (g15v1K G_g15v1) (rowK g15v2tp g15v2bp (g15v2K G_g15v2))) args Bs k) (cond (Nat.beq f 29) (rowE g29tp g29bp (g29K G_g29) (rowE g29v1tp g29v1bp (g29v1K G_g29v1) (rowK g29v2tp g29v2bp (g29v2K G_g29v2))) args Bs k) (cond (Nat.beq f 34) (rowE g34tp g34bp (g34K G_g34) (rowK g34v1tp g34v1bp (g34v1K G_g34v1)) args Bs k) (none)))))))
  loop := fun id st k => none
  ro := fun f => cond (Nat.beq f 11) [0] (cond (Nat.beq f 13) [0] (cond (Nat.beq f 15) [0, 1] (cond (Nat.beq f 34) [0] (cond (Nat.beq f 37) [0] (cond (Nat.beq f 38) [0] ([]))))))
def g10h (m : Nat) : Hd := g10hd (g11 m) (g13 m) (g37 m) (g38 m) (g15 m) (g15v1 m) (g29 m) (g29v1 m) (g34 m) (g15v2 m) (g29v2 m) (g34v1 m)
theorem g10Main (G_g11 : {α : Type} → Nat → Nat → Nat → Int → Nat → (List (List Int)) → (Int → Option α) → Option α) (G_g13 : {α : Type} → Nat → Nat → Nat → Nat → (List (List Int)) → ((List (List Int)) → Option α) → Option α) (G_g37 : {α : Type} → Nat → Nat → Nat → Int → Nat → (List (List Int)) → (Int → (List (List Int)) → Option α) → Option α) (G_g38 : {α : Type} → Nat → Nat → Nat → Int → Nat → (List (List Int)) → (Int → Option α) → ((List (List Int)) → Option α) → Option α) (G_g15 : {α : Type} → (List (List Int)) → (Bool → Option α) → Option α) (G_g15v1 : {α : Type} → Nat → Nat → Nat → Nat → Nat → Nat → Nat → (List (List Int)) → Nat → (List (List Int)) → (Bool → Option α) → Option α) (G_g29 : {α : Type} → Nat → Nat → Nat → Int → Nat → (List (List Int)) → (Int → (List (List Int)) → Option α) → Option α) (G_g29v1 : {α : Type} → Int → (Option α) → Option α) (G_g34 : {α : Type} → Int → (Option α) → Option α) (G_g15v2 : {α : Type} → (List (List Int)) → (List (List Int)) → (Bool → Option α) → Option α) (G_g29v2 : {α : Type} → Int → (List (List Int)) → (Int → (List (List Int)) → Option α) → Option α) (G_g34v1 : {α : Type} → Int → (List (List Int)) → (Int → Option α) → Option α)  {α : Type} (ls : List Lf) (k : TV → List (List Seg) → List (List Seg) → Option α) :
    g10K (g10b G_g11 G_g13 G_g37 G_g38 G_g15 G_g15v1 G_g29 G_g29v1 G_g34 G_g15v2 G_g29v2 G_g34v1) ls k = evFun tab (g10hd G_g11 G_g13 G_g37 G_g38 G_g15 G_g15v1 G_g29 G_g29v1 G_g34 G_g15v2 G_g29v2 G_g34v1) Go.Proofs.Try.f10 (fillT g10tp ls).1 (fillB g10bp (fillT g10tp ls).2).1 k := by kernel_rfl
theorem g10Calls (m : Nat) : (g10h m).CallsOk Go.Proofs.Try.prog := (cok_cons (g11Ok m) (cok_cons (g13Ok m) (cok_cons (g37Ok m) (cok_cons (g38Ok m) (cok_cons (row_else (g15Ok m) (row_else (g15v1Ok m) (g15v2Ok m))) (cok_cons (row_else (g29Ok m) (row_else (g29v1Ok m) (g29v2Ok m))) (cok_cons (row_else (g34Ok m) (g34v1Ok m)) cok_nil)))))))
theorem g10Fn (m : Nat) : FnOk Go.Proofs.Try.prog 10 g10tp g10bp (fun {α} => g10K (g10 (α := α) m)) :=
  fn_ok (tab := tab) (h := g10h m) (fn := Go.Proofs.Try.f10) (F := fun {α} => g10K (g10 (α := α) m)) tabOk (g10Calls m) mixed (by kernel_rfl) (by kernel_rfl) (fun c hc => by
    rw [bodyOf_some hc]
    exact loopsOk_of _ (fun p hp => by rw [show loopsOf (bodyOf Go.Proofs.Try.f10) = [] by kernel_rfl] at hp; cases hp))
    (fun α ls k => g10Main (g11 m) (g13 m) (g37 m) (g38 m) (g15 m) (g15v1 m) (g29 m) (g29v1 m) (g34 m) (g15v2 m) (g29v2 m) (g34v1 m) ls k)
theorem g10Ok (m : Nat) : RowOk Go.Proofs.Try.prog 10 (fun {α} => rowK g10tp g10bp (g10K (g10 (α := α) m))) := row_of (g10Fn m)
end Go.Proofs.Ytobejeiffgehfaa.Sx
