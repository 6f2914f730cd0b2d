/- Functions. Printed by our own sx.py. -/
import Derived.Test.YtcccndkeaichcaaSxV1
namespace Go.Proofs.Ytcccndkeaichcaa.Sx
open Go
set_option linter.unusedVariables false
set_option maxRecDepth 100000
/-! ### g88: impl.rootOf -/
def g88l0b {α : Type} (G_g109 : {α : Type} → ((List Int) → Option α) → Option α) (G_g117 : {α : Type} → (List Int) → Int → ((List Int) → Option α) → Option α) (G_g108 : {α : Type} → (List Int) → (List Int) → ((List Int) → Bool → Option α) → Option α) (G_g114 : {α : Type} → (List Int) → (List Int) → ((List Int) → Bool → Option α) → Option α) (G_g111 : {α : Type} → (List Int) → (List Int) → (Int → Option α) → Option α)  (a1326 : List Int) (a1327 : List Int) (k1342 : (List Int) → Option α) (r1343 : Int → (List Int) → Option α) (v1325 : Int) (a1328 : List Int) : Option α :=
  cond (decide (v1325 ≥ (0 : Int)))
   (
    G_g109
      (fun l1330 =>
        G_g117 l1330 v1325
          (fun l1331 =>
            G_g108 a1328 l1331
              (fun l1332 b1333 =>
                G_g114 l1332 l1332
                  (fun l1334 b1335 =>
                    cond (!b1335)
                     (
                      G_g111 l1334 a1326
                        (fun x1337 =>
                          cond (decide (x1337 ≤ (0 : Int)))
                           (
                            r1343 (IntKind.wrap .i64 (v1325 - (1 : Int))) l1332)
                           (
                            r1343 (IntKind.wrap .i64 (v1325 - (1 : Int))) a1328)))
                     (
                      r1343 (IntKind.wrap .i64 (v1325 - (1 : Int))) a1328))))))
   (
    k1342 a1328)
def g88l0 {α : Type} (G_g109 : {α : Type} → ((List Int) → Option α) → Option α) (G_g117 : {α : Type} → (List Int) → Int → ((List Int) → Option α) → Option α) (G_g108 : {α : Type} → (List Int) → (List Int) → ((List Int) → Bool → Option α) → Option α) (G_g114 : {α : Type} → (List Int) → (List Int) → ((List Int) → Bool → Option α) → Option α) (G_g111 : {α : Type} → (List Int) → (List Int) → (Int → Option α) → Option α)  (a1326 : List Int) (a1327 : List Int) (k1342 : (List Int) → Option α) : Nat → Int → (List Int) → Option α
  | 0 => fun _ _ => none
  | m + 1 => fun v1325 a1328 => g88l0b G_g109 G_g117 G_g108 G_g114 G_g111 a1326 a1327 k1342 (g88l0 G_g109 G_g117 G_g108 G_g114 G_g111 a1326 a1327 k1342 m) v1325 a1328
def g88l0M {α : Type} (m : Nat) : (List Int) → (List Int) → ((List Int) → Option α) → Int → (List Int) → Option α :=
  fun a1326 a1327 k1342 v1325 a1328 => g88l0 (g109 m) (g117 m) (g108 m) (g114 m) (g111 m) a1326 a1327 k1342 m v1325 a1328
def g88l0D : LoopD := { n := 42, sl := [1, 2, 3, 4], bl := [1001, 1002, 1003], tp := [(.vl (.sv (.ptr 1001 0))), (.vl (.sv (.ptr 1002 0))), (.vl (.sv (.ptr 1003 0))), (.vl (.sv (.int .i64)))], bp := [(true, [(.seq (.int .u32) 6)]), (true, [(.seq (.int .u32) 6)]), (true, [(.seq (.int .u32) 6)])], xs := [(2, [2, 3], [1002, 1003])] }
def g88l0K {α : Type} (L : (List Int) → (List Int) → ((List Int) → Option α) → Int → (List Int) → Option α) (ls : List Lf) (k : Ex → St → Option α) : Option α :=
  L ((lf ls 1).lst (.int .u32)) ((lf ls 2).lst (.int .u32))
    (fun y1 => k .normal (mkSt 42 [2, 3] [(.vl (.sv (.ptr 1002 0))), (.vl (.sv (.ptr 1003 0)))] [1002, 1003] [(true, [(.seq (.int .u32) 6 ((lf ls 2).lst (.int .u32)))]), (true, [(.seq (.int .u32) 6 y1)])]))
    (lf ls 0).int ((lf ls 3).lst (.int .u32))
def g88b {α : Type} (G_g94 : {α : Type} → (List Int) → (Int → Option α) → Option α) (G_g109 : {α : Type} → ((List Int) → Option α) → Option α) (G_g117 : {α : Type} → (List Int) → Int → ((List Int) → Option α) → Option α) (G_g108 : {α : Type} → (List Int) → (List Int) → ((List Int) → Bool → Option α) → Option α) (G_g114 : {α : Type} → (List Int) → (List Int) → ((List Int) → Bool → Option α) → Option α) (G_g111 : {α : Type} → (List Int) → (List Int) → (Int → Option α) → Option α) (L_g88l0 : {α : Type} → (List Int) → (List Int) → ((List Int) → Option α) → Int → (List Int) → Option α) (u1321 : List Int) (k1345 : (List Int) → Option α) : Option α :=
  G_g94 u1321
    (fun x1322 =>
      L_g88l0 u1321 [0, 0, 0, 0, 0, 0]
        (fun l1344 =>
          k1345 l1344)
        (IntKind.wrap .i64 (Int.tdiv (IntKind.wrap .i64 (x1322 + (1 : Int))) (2 : Int))) [0, 0, 0, 0, 0, 0])
def g88 {α : Type} (m : Nat) : (List Int) → ((List Int) → Option α) → Option α :=
  g88b (g94 m) (g109 m) (g117 m) (g108 m) (g114 m) (g111 m) (g88l0M m)
def g88tp : List TP := [(.vl (.agg [(.seq (.int .u32) 6)]))]
def g88bp : List BP := []
def g88K {α : Type} (G : (List Int) → ((List Int) → Option α) → Option α) (ls : List Lf) (k : TV → List (List Seg) → List (List Seg) → Option α) : Option α :=
  G ((lf ls 0).lst (.int .u32))
    (fun y0 => k (.vl (.agg [(.seq (.int .u32) 6 y0)])) [] [])
def g88hd (G_g94 : {α : Type} → (List Int) → (Int → Option α) → Option α) (G_g109 : {α : Type} → ((List Int) → Option α) → Option α) (G_g117 : {α : Type} → (List Int) → Int → ((List Int) → Option α) → Option α) (G_g108 : {α : Type} → (List Int) → (List Int) → ((List Int) → Bool → Option α) → Option α) (G_g114 : {α : Type} → (List Int) → (List Int) → ((List Int) → Bool → Option α) → Option α) (G_g111 : {α : Type} → (List Int) → (List Int) → (Int → Option α) → Option α) (L_g88l0 : {α : Type} → (List Int) → (List Int) → ((List Int) → Option α) → Int → (List Int) → Option α) : Hd where
  call := fun f args Bs k => cond (Nat.beq f 94) (rowK g94tp g94bp (g94K G_g94) args Bs k) (cond (Nat.beq f 109) (rowK g109tp g109bp (g109K G_g109) args Bs k) (cond (Nat.beq f 117) (rowK g117tp g117bp (g117K G_g117) args Bs k) (cond (Nat.beq f 108) (rowK g108tp g108bp (g108K G_g108) args Bs k) (cond (Nat.beq f 114) (rowK g114tp g114bp (g114K G_g114) args Bs k) (cond (Nat.beq f 111) (rowK g111tp g111bp (g111K G_g111) args Bs k) (none))))))
  loop := fun id st k => cond (Nat.beq id 0) (loopH g88l0D (g88l0K L_g88l0) st k) (none)
  ro := fun f => []
def g88h (m : Nat) : Hd := g88hd (g94 m) (g109 m) (g117 m) (g108 m) (g114 m) (g111 m) (g88l0M m)
theorem g88l0Step (G_g94 : {α : Type} → (List Int) → (Int → Option α) → Option α) (G_g109 : {α : Type} → ((List Int) → Option α) → Option α) (G_g117 : {α : Type} → (List Int) → Int → ((List Int) → Option α) → Option α) (G_g108 : {α : Type} → (List Int) → (List Int) → ((List Int) → Bool → Option α) → Option α) (G_g114 : {α : Type} → (List Int) → (List Int) → ((List Int) → Bool → Option α) → Option α) (G_g111 : {α : Type} → (List Int) → (List Int) → (Int → Option α) → Option α) (L_g88l0 : {α : Type} → (List Int) → (List Int) → ((List Int) → Option α) → Int → (List Int) → Option α) {α : Type} (L : (List Int) → (List Int) → ((List Int) → Option α) → Int → (List Int) → Option α) (ls : List Lf) (k : Ex → St → Option α) :
    g88l0K (fun a1326 a1327 k1342 v1325 a1328 => g88l0b G_g109 G_g117 G_g108 G_g114 G_g111 a1326 a1327 k1342 (L a1326 a1327 k1342) v1325 a1328) ls k = ev tab (g88hd G_g94 G_g109 G_g117 G_g108 G_g114 G_g111 L_g88l0) (bodyAt Go.Proofs.Try.f88 0) (atHead g88l0D ls) (loopK g88l0D 0 (loopH g88l0D (g88l0K L)) k) := by kernel_rfl
theorem g88Main (G_g94 : {α : Type} → (List Int) → (Int → Option α) → Option α) (G_g109 : {α : Type} → ((List Int) → Option α) → Option α) (G_g117 : {α : Type} → (List Int) → Int → ((List Int) → Option α) → Option α) (G_g108 : {α : Type} → (List Int) → (List Int) → ((List Int) → Bool → Option α) → Option α) (G_g114 : {α : Type} → (List Int) → (List Int) → ((List Int) → Bool → Option α) → Option α) (G_g111 : {α : Type} → (List Int) → (List Int) → (Int → Option α) → Option α) (L_g88l0 : {α : Type} → (List Int) → (List Int) → ((List Int) → Option α) → Int → (List Int) → Option α) {α : Type} (ls : List Lf) (k : TV → List (List Seg) → List (List Seg) → Option α) :
    g88K (g88b G_g94 G_g109 G_g117 G_g108 G_g114 G_g111 L_g88l0) ls k = evFun tab (g88hd G_g94 G_g109 G_g117 G_g108 G_g114 G_g111 L_g88l0) Go.Proofs.Try.f88 (fillT g88tp ls).1 (fillB g88bp (fillT g88tp ls).2).1 k := by kernel_rfl
theorem g88Calls (m : Nat) : (g88h m).CallsOk Go.Proofs.Try.prog := (cok_cons (g94Ok m) (cok_cons (g109Ok m) (cok_cons (g117Ok m) (cok_cons (g108Ok m) (cok_cons (g114Ok m) (cok_cons (g111Ok m) cok_nil))))))
theorem g88l0Ok (m : Nat) (α : Type) (st : St) (k : Ex → St → Option α) (r : α) (h : (g88h m).loop 0 st k = some r) :
    ∃ e st', k e st' = some r ∧ CodeS Go.Proofs.Try.prog (.block 0 (.loop (bodyAt Go.Proofs.Try.f88 0))) st e st' :=
  loop_ok (tab := tab) (h := g88h m) (F := fun n ls k => g88l0K (fun a1326 a1327 k1342 v1325 a1328 => g88l0 (g109 m) (g117 m) (g108 m) (g114 m) (g111 m) a1326 a1327 k1342 n v1325 a1328) ls k) tabOk (g88Calls m) mixed (loopsOk_of _ (fun p hp => by rw [show loopsOf (bodyAt Go.Proofs.Try.f88 0) = [] by kernel_rfl] at hp; cases hp))
    (fun _ _ => rfl) (fun n ls k => g88l0Step (g94 m) (g109 m) (g117 m) (g108 m) (g114 m) (g111 m) (g88l0M m) (fun a1326 a1327 k1342 => g88l0 (g109 m) (g117 m) (g108 m) (g114 m) (g111 m) a1326 a1327 k1342 n) ls k) (n := m) h
theorem g88Fn (m : Nat) : FnOk Go.Proofs.Try.prog 88 g88tp g88bp (fun {α} => g88K (g88 (α := α) m)) :=
  fn_ok (tab := tab) (h := g88h m) (fn := Go.Proofs.Try.f88) (F := fun {α} => g88K (g88 (α := α) m)) tabOk (g88Calls m) mixed (by kernel_rfl) (by kernel_rfl) (fun c hc => by
    rw [bodyOf_some hc]
    exact loopsOk_of _ (fun p hp => by
    rw [show loopsOf (bodyOf Go.Proofs.Try.f88) = [(0, bodyAt Go.Proofs.Try.f88 0)] by kernel_rfl] at hp
    simp only [List.mem_cons, List.not_mem_nil, or_false] at hp
    rcases hp with rfl
    exact g88l0Ok m))
    (fun α ls k => g88Main (g94 m) (g109 m) (g117 m) (g108 m) (g114 m) (g111 m) (g88l0M m) ls k)
theorem g88Ok (m : Nat) : RowOk Go.Proofs.Try.prog 88 (fun {α} => rowK g88tp g88bp (g88K (g88 (α := α) m))) := row_of (g88Fn m)

/-! ### g44: impl.RootWide -/
def g44b {α : Type} (G_g24 : {α : Type} → Bool → (List Int) → (Bool → Option α) → Option α) (G_g88 : {α : Type} → (List Int) → ((List Int) → Option α) → Option α) (G_g67 : {α : Type} → Bool → (List Int) → (Bool → Option α) → Option α)  (q1317 : Bool) (u1318 : List Int) (k1348 : Bool → (List Int) → Int → Option α) : Option α :=
  G_g24 q1317 u1318
    (fun b1319 =>
      cond (!b1319)
       (
        k1348 false [0, 0, 0, 0, 0, 0] (1 : Int))
       (
        cond q1317
         (
          k1348 false [0, 0, 0, 0, 0, 0] (2 : Int))
         (
          G_g88 u1318
            (fun l1346 =>
              G_g67 false l1346
                (fun b1347 =>
                  k1348 b1347 l1346 (0 : Int))))))
def g44 {α : Type} (m : Nat) : Bool → (List Int) → (Bool → (List Int) → Int → Option α) → Option α :=
  g44b (g24 m) (g88 m) (g67 m)
def g44tp : List TP := [(.vl (.agg [(.one .bool), (.seq (.int .u32) 6)]))]
def g44bp : List BP := []
def g44K {α : Type} (G : Bool → (List Int) → (Bool → (List Int) → Int → Option α) → Option α) (ls : List Lf) (k : TV → List (List Seg) → List (List Seg) → Option α) : Option α :=
  G (lf ls 0).bool ((lf ls 1).lst (.int .u32))
    (fun y0 y1 y2 => k (.tup [(.agg [(.one (.bool y0)), (.seq (.int .u32) 6 y1)]), (.sv (.int .i64 y2))]) [] [])
def g44hd (G_g24 : {α : Type} → Bool → (List Int) → (Bool → Option α) → Option α) (G_g88 : {α : Type} → (List Int) → ((List Int) → Option α) → Option α) (G_g67 : {α : Type} → Bool → (List Int) → (Bool → Option α) → Option α)  : Hd where
  call := fun f args Bs k => cond (Nat.beq f 24) (rowK g24tp g24bp (g24K G_g24) args Bs k) (cond (Nat.beq f 88) (rowK g88tp g88bp (g88K G_g88) args Bs k) (cond (Nat.beq f 67) (rowK g67tp g67bp (g67K G_g67) args Bs k) (none)))
  loop := fun id st k => none
  ro := fun f => []
def g44h (m : Nat) : Hd := g44hd (g24 m) (g88 m) (g67 m)
theorem g44Main (G_g24 : {α : Type} → Bool → (List Int) → (Bool → Option α) → Option α) (G_g88 : {α : Type} → (List Int) → ((List Int) → Option α) → Option α) (G_g67 : {α : Type} → Bool → (List Int) → (Bool → Option α) → Option α)  {α : Type} (ls : List Lf) (k : TV → List (List Seg) → List (List Seg) → Option α) :
    g44K (g44b G_g24 G_g88 G_g67) ls k = evFun tab (g44hd G_g24 G_g88 G_g67) Go.Proofs.Try.f44 (fillT g44tp ls).1 (fillB g44bp (fillT g44tp ls).2).1 k := by kernel_rfl
theorem g44Calls (m : Nat) : (g44h m).CallsOk Go.Proofs.Try.prog := (cok_cons (g24Ok m) (cok_cons (g88Ok m) (cok_cons (g67Ok m) cok_nil)))
theorem g44Fn (m : Nat) : FnOk Go.Proofs.Try.prog 44 g44tp g44bp (fun {α} => g44K (g44 (α := α) m)) :=
  fn_ok (tab := tab) (h := g44h m) (fn := Go.Proofs.Try.f44) (F := fun {α} => g44K (g44 (α := α) m)) tabOk (g44Calls m) mixed (by kernel_rfl) (by kernel_rfl) (fun c hc => by
    rw [bodyOf_some hc]
    exact loopsOk_of _ (fun p hp => by rw [show loopsOf (bodyOf Go.Proofs.Try.f44) = [] by kernel_rfl] at hp; cases hp))
    (fun α ls k => g44Main (g24 m) (g88 m) (g67 m) ls k)
theorem g44Ok (m : Nat) : RowOk Go.Proofs.Try.prog 44 (fun {α} => rowK g44tp g44bp (g44K (g44 (α := α) m))) := row_of (g44Fn m)

/-! ### g19: laws.FnExactRootWide -/
def g19b {α : Type} (G_g23 : {α : Type} → Bool → (List Int) → ((List Int) → Option α) → Option α) (G_g63 : {α : Type} → Bool → (List Int) → (Bool → (List Int) → Int → Option α) → Option α) (G_g44 : {α : Type} → Bool → (List Int) → (Bool → (List Int) → Int → Option α) → Option α) (G_g27 : {α : Type} → Bool → (List Int) → Bool → (List Int) → (Bool → Option α) → Option α)  (q1264 : Bool) (u1265 : List Int) (k1355 : Bool → Option α) : Option α :=
  G_g23 q1264 u1265
    (fun l1266 =>
      G_g63 q1264 l1266
        (fun b1313 l1314 x1315 =>
          G_g23 q1264 u1265
            (fun l1316 =>
              G_g44 q1264 l1316
                (fun b1349 l1350 x1351 =>
                  G_g27 b1349 l1350 b1313 l1314
                    (fun b1352 =>
                      cond (!b1352)
                       (
                        k1355 false)
                       (
                        cond (x1351 != x1315)
                         (
                          k1355 false)
                         (
                          k1355 true)))))))
def g19 {α : Type} (m : Nat) : Bool → (List Int) → (Bool → Option α) → Option α :=
  g19b (g23 m) (g63 m) (g44 m) (g27 m)
def g19tp : List TP := [(.vl (.agg [(.one .bool), (.seq (.int .u32) 6)]))]
def g19bp : List BP := []
def g19K {α : Type} (G : Bool → (List Int) → (Bool → Option α) → Option α) (ls : List Lf) (k : TV → List (List Seg) → List (List Seg) → Option α) : Option α :=
  G (lf ls 0).bool ((lf ls 1).lst (.int .u32))
    (fun y0 => k (.vl (.sv (.bool y0))) [] [])
def g19hd (G_g23 : {α : Type} → Bool → (List Int) → ((List Int) → Option α) → Option α) (G_g63 : {α : Type} → Bool → (List Int) → (Bool → (List Int) → Int → Option α) → Option α) (G_g44 : {α : Type} → Bool → (List Int) → (Bool → (List Int) → Int → Option α) → Option α) (G_g27 : {α : Type} → Bool → (List Int) → Bool → (List Int) → (Bool → Option α) → Option α)  : Hd where
  call := fun f args Bs k => cond (Nat.beq f 23) (rowK g23tp g23bp (g23K G_g23) args Bs k) (cond (Nat.beq f 63) (rowK g63tp g63bp (g63K G_g63) args Bs k) (cond (Nat.beq f 44) (rowK g44tp g44bp (g44K G_g44) args Bs k) (cond (Nat.beq f 27) (rowK g27tp g27bp (g27K G_g27) args Bs k) (none))))
  loop := fun id st k => none
  ro := fun f => []
def g19h (m : Nat) : Hd := g19hd (g23 m) (g63 m) (g44 m) (g27 m)
theorem g19Main (G_g23 : {α : Type} → Bool → (List Int) → ((List Int) → Option α) → Option α) (G_g63 : {α : Type} → Bool → (List Int) → (Bool → (List Int) → Int → Option α) → Option α) (G_g44 : {α : Type} → Bool → (List Int) → (Bool → (List Int) → Int → Option α) → Option α) (G_g27 : {α : Type} → Bool → (List Int) → Bool → (List Int) → (Bool → Option α) → Option α)  {α : Type} (ls : List Lf) (k : TV → List (List Seg) → List (List Seg) → Option α) :
    g19K (g19b G_g23 G_g63 G_g44 G_g27) ls k = evFun tab (g19hd G_g23 G_g63 G_g44 G_g27) Go.Proofs.Try.f19 (fillT g19tp ls).1 (fillB g19bp (fillT g19tp ls).2).1 k := by kernel_rfl
theorem g19Calls (m : Nat) : (g19h m).CallsOk Go.Proofs.Try.prog := (cok_cons (g23Ok m) (cok_cons (g63Ok m) (cok_cons (g44Ok m) (cok_cons (g27Ok m) cok_nil))))
theorem g19Fn (m : Nat) : FnOk Go.Proofs.Try.prog 19 g19tp g19bp (fun {α} => g19K (g19 (α := α) m)) :=
  fn_ok (tab := tab) (h := g19h m) (fn := Go.Proofs.Try.f19) (F := fun {α} => g19K (g19 (α := α) m)) tabOk (g19Calls m) mixed (by kernel_rfl) (by kernel_rfl) (fun c hc => by
    rw [bodyOf_some hc]
    exact loopsOk_of _ (fun p hp => by rw [show loopsOf (bodyOf Go.Proofs.Try.f19) = [] by kernel_rfl] at hp; cases hp))
    (fun α ls k => g19Main (g23 m) (g63 m) (g44 m) (g27 m) ls k)
theorem g19Ok (m : Nat) : RowOk Go.Proofs.Try.prog 19 (fun {α} => rowK g19tp g19bp (g19K (g19 (α := α) m))) := row_of (g19Fn m)

/-! ### g61: spec.ReadWide -/
def g61l0b {α : Type}   (z1367 : ByteArray) (c1368 : Bool) (c1370 : Bool) (a1371 : List Int) (k1378 : (List Int) → Option α) (k1379 : Option α) (r1380 : Int → Option α) (v1369 : Int) : Option α :=
  cond (decide (v1369 < ((z1367.size : Nat) : Int)))
   (
    if 0 ≤ v1369 ∧ v1369 < z1367.size then
      cond (decide ((byteAt z1367 v1369.toNat) < (48 : Int)))
       (
        k1378 [0, 0, 0, 0, 0, 0])
       (
        if 0 ≤ v1369 ∧ v1369 < z1367.size then
          cond (decide ((byteAt z1367 v1369.toNat) > (57 : Int)))
           (
            k1378 [0, 0, 0, 0, 0, 0])
           (
            r1380 (IntKind.wrap .i64 (v1369 + (1 : Int))))
        else
          none)
    else
      none)
   (
    k1379)
def g61l0 {α : Type}   (z1367 : ByteArray) (c1368 : Bool) (c1370 : Bool) (a1371 : List Int) (k1378 : (List Int) → Option α) (k1379 : Option α) : Nat → Int → Option α
  | 0 => fun _ => none
  | m + 1 => fun v1369 => g61l0b z1367 c1368 c1370 a1371 k1378 k1379 (g61l0 z1367 c1368 c1370 a1371 k1378 k1379 m) v1369
def g61l0M {α : Type} (m : Nat) : ByteArray → Bool → Bool → (List Int) → ((List Int) → Option α) → (Option α) → Int → Option α :=
  fun z1367 c1368 c1370 a1371 k1378 k1379 v1369 => g61l0 z1367 c1368 c1370 a1371 k1378 k1379 m v1369
def g61l0D : LoopD := { n := 94, sl := [2, 4, 5, 6], bl := [1002], tp := [(.vl (.sv (.ptr 1002 0))), (.vl (.sv .str)), (.vl (.sv .bool)), (.vl (.sv (.int .i64)))], bp := [(true, [(.one .bool), (.seq (.int .u32) 6)])], xs := [(1, [2, 3], [1002]), (2, [2, 4, 5], [1002])] }
def g61l0K {α : Type} (L : ByteArray → Bool → Bool → (List Int) → ((List Int) → Option α) → (Option α) → Int → Option α) (ls : List Lf) (k : Ex → St → Option α) : Option α :=
  L (lf ls 0).str (lf ls 1).bool (lf ls 3).bool ((lf ls 4).lst (.int .u32))
    (fun y2 => k .ret (mkSt 94 [2, 3] [(.vl (.sv (.ptr 1002 0))), (.vl (.sv (.int .i64 (5 : Int))))] [1002] [(true, [(.one (.bool false)), (.seq (.int .u32) 6 y2)])]))
    (k .normal (mkSt 94 [2, 4, 5] [(.vl (.sv (.ptr 1002 0))), (.vl (.sv (.str (lf ls 0).str))), (.vl (.sv (.bool (lf ls 1).bool)))] [1002] [(true, [(.one (.bool (lf ls 3).bool)), (.seq (.int .u32) 6 ((lf ls 4).lst (.int .u32)))])]))
    (lf ls 2).int
def g61l2b {α : Type} (G_g66 : {α : Type} → Int → (Bool → (List Int) → Option α) → Option α) (G_g97 : {α : Type} → Bool → (List Int) → Bool → (List Int) → (Bool → (List Int) → Int → Option α) → Option α) (G_g81 : {α : Type} → Bool → (List Int) → Bool → (List Int) → (Bool → (List Int) → Int → Option α) → Option α)  (z1382 : ByteArray) (c1383 : Bool) (c1385 : Bool) (a1386 : List Int) (k1406 : Int → (List Int) → Option α) (k1407 : Bool → (List Int) → Option α) (r1408 : Int → Bool → (List Int) → Option α) (v1384 : Int) (c1387 : Bool) (a1388 : List Int) : Option α :=
  cond (decide (v1384 < ((z1382.size : Nat) : Int)))
   (
    G_g66 (10 : Int)
      (fun b1390 l1391 =>
        G_g97 c1387 a1388 b1390 l1391
          (fun b1392 l1393 x1394 =>
            cond (x1394 != (0 : Int))
             (
              k1406 x1394 [0, 0, 0, 0, 0, 0])
             (
              if 0 ≤ v1384 ∧ v1384 < z1382.size then
                G_g66 (IntKind.wrap .i64 (IntKind.wrap .u8 ((byteAt z1382 v1384.toNat) - (48 : Int))))
                  (fun b1399 l1400 =>
                    G_g81 b1392 l1393 b1399 l1400
                      (fun b1401 l1402 x1403 =>
                        cond (x1403 != (0 : Int))
                         (
                          k1406 x1403 [0, 0, 0, 0, 0, 0])
                         (
                          r1408 (IntKind.wrap .i64 (v1384 + (1 : Int))) b1401 l1402)))
              else
                none))))
   (
    k1407 c1387 a1388)
def g61l2 {α : Type} (G_g66 : {α : Type} → Int → (Bool → (List Int) → Option α) → Option α) (G_g97 : {α : Type} → Bool → (List Int) → Bool → (List Int) → (Bool → (List Int) → Int → Option α) → Option α) (G_g81 : {α : Type} → Bool → (List Int) → Bool → (List Int) → (Bool → (List Int) → Int → Option α) → Option α)  (z1382 : ByteArray) (c1383 : Bool) (c1385 : Bool) (a1386 : List Int) (k1406 : Int → (List Int) → Option α) (k1407 : Bool → (List Int) → Option α) : Nat → Int → Bool → (List Int) → Option α
  | 0 => fun _ _ _ => none
  | m + 1 => fun v1384 c1387 a1388 => g61l2b G_g66 G_g97 G_g81 z1382 c1383 c1385 a1386 k1406 k1407 (g61l2 G_g66 G_g97 G_g81 z1382 c1383 c1385 a1386 k1406 k1407 m) v1384 c1387 a1388
def g61l2M {α : Type} (m : Nat) : ByteArray → Bool → Bool → (List Int) → (Int → (List Int) → Option α) → (Bool → (List Int) → Option α) → Int → Bool → (List Int) → Option α :=
  fun z1382 c1383 c1385 a1386 k1406 k1407 v1384 c1387 a1388 => g61l2 (g66 m) (g97 m) (g81 m) z1382 c1383 c1385 a1386 k1406 k1407 m v1384 c1387 a1388
def g61l2D : LoopD := { n := 94, sl := [2, 4, 5, 7, 8], bl := [1002, 1007], tp := [(.vl (.sv (.ptr 1002 0))), (.vl (.sv .str)), (.vl (.sv .bool)), (.vl (.sv (.ptr 1007 0))), (.vl (.sv (.int .i64)))], bp := [(true, [(.one .bool), (.seq (.int .u32) 6)]), (true, [(.one .bool), (.seq (.int .u32) 6)])], xs := [(1, [2, 3], [1002]), (4, [2, 5, 7], [1002, 1007])] }
def g61l2K {α : Type} (L : ByteArray → Bool → Bool → (List Int) → (Int → (List Int) → Option α) → (Bool → (List Int) → Option α) → Int → Bool → (List Int) → Option α) (ls : List Lf) (k : Ex → St → Option α) : Option α :=
  L (lf ls 0).str (lf ls 1).bool (lf ls 3).bool ((lf ls 4).lst (.int .u32))
    (fun y0 y2 => k .ret (mkSt 94 [2, 3] [(.vl (.sv (.ptr 1002 0))), (.vl (.sv (.int .i64 y0)))] [1002] [(true, [(.one (.bool false)), (.seq (.int .u32) 6 y2)])]))
    (fun y3 y4 => k .normal (mkSt 94 [2, 5, 7] [(.vl (.sv (.ptr 1002 0))), (.vl (.sv (.bool (lf ls 1).bool))), (.vl (.sv (.ptr 1007 0)))] [1002, 1007] [(true, [(.one (.bool (lf ls 3).bool)), (.seq (.int .u32) 6 ((lf ls 4).lst (.int .u32)))]), (true, [(.one (.bool y3)), (.seq (.int .u32) 6 y4)])]))
    (lf ls 2).int (lf ls 5).bool ((lf ls 6).lst (.int .u32))
def g61b {α : Type} (G_g66 : {α : Type} → Int → (Bool → (List Int) → Option α) → Option α) (G_g97 : {α : Type} → Bool → (List Int) → Bool → (List Int) → (Bool → (List Int) → Int → Option α) → Option α) (G_g81 : {α : Type} → Bool → (List Int) → Bool → (List Int) → (Bool → (List Int) → Int → Option α) → Option α) (G_g71 : {α : Type} → Bool → (List Int) → (Bool → Option α) → Option α) (L_g61l0 : {α : Type} → ByteArray → Bool → Bool → (List Int) → ((List Int) → Option α) → (Option α) → Int → Option α) (L_g61l2 : {α : Type} → ByteArray → Bool → Bool → (List Int) → (Int → (List Int) → Option α) → (Bool → (List Int) → Option α) → Int → Bool → (List Int) → Option α) (z1358 : ByteArray) (k1452 : Bool → (List Int) → Int → Option α) : Option α :=
  cond (!bytesEq z1358 (⟨#[]⟩ : ByteArray))
   (
    if 0 ≤ (0 : Int) ∧ (0 : Int) < z1358.size then
      let b1361 : Bool := (byteAt z1358 (0 : Int).toNat) == (45 : Int)
      cond b1361
       (
        if 0 ≤ (1 : Int) ∧ (1 : Int) ≤ ((z1358.size : Nat) : Int) ∧ ((z1358.size : Nat) : Int) ≤ ((z1358.size : Nat) : Int) then
          let s1362 : ByteArray := ByteArray.extract z1358 1 (Int.toNat ((z1358.size : Nat) : Int))
          cond (bytesEq s1362 (⟨#[]⟩ : ByteArray))
           (
            k1452 false [0, 0, 0, 0, 0, 0] (5 : Int))
           (
            if 0 ≤ (0 : Int) ∧ (0 : Int) < s1362.size then
              cond ((byteAt s1362 (0 : Int).toNat) == (48 : Int))
               (
                cond (decide (((s1362.size : Nat) : Int) > (1 : Int)))
                 (
                  k1452 false [0, 0, 0, 0, 0, 0] (5 : Int))
                 (
                  cond b1361
                   (
                    k1452 false [0, 0, 0, 0, 0, 0] (5 : Int))
                   (
                    L_g61l0 s1362 b1361 false [0, 0, 0, 0, 0, 0]
                      (fun l1381 =>
                        k1452 false l1381 (5 : Int))
                      (
                        L_g61l2 s1362 b1361 false [0, 0, 0, 0, 0, 0]
                          (fun x1409 l1410 =>
                            k1452 false l1410 x1409)
                          (fun b1411 l1412 =>
                            G_g71 b1361 l1412
                              (fun b1413 =>
                                k1452 b1413 l1412 (0 : Int)))
                          (0 : Int) false [0, 0, 0, 0, 0, 0])
                      (0 : Int))))
               (
                L_g61l0 s1362 b1361 false [0, 0, 0, 0, 0, 0]
                  (fun l1414 =>
                    k1452 false l1414 (5 : Int))
                  (
                    L_g61l2 s1362 b1361 false [0, 0, 0, 0, 0, 0]
                      (fun x1415 l1416 =>
                        k1452 false l1416 x1415)
                      (fun b1417 l1418 =>
                        G_g71 b1361 l1418
                          (fun b1419 =>
                            k1452 b1419 l1418 (0 : Int)))
                      (0 : Int) false [0, 0, 0, 0, 0, 0])
                  (0 : Int))
            else
              none)
        else
          none)
       (
        cond (bytesEq z1358 (⟨#[]⟩ : ByteArray))
         (
          k1452 false [0, 0, 0, 0, 0, 0] (5 : Int))
         (
          if 0 ≤ (0 : Int) ∧ (0 : Int) < z1358.size then
            cond ((byteAt z1358 (0 : Int).toNat) == (48 : Int))
             (
              cond (decide (((z1358.size : Nat) : Int) > (1 : Int)))
               (
                k1452 false [0, 0, 0, 0, 0, 0] (5 : Int))
               (
                cond b1361
                 (
                  k1452 false [0, 0, 0, 0, 0, 0] (5 : Int))
                 (
                  L_g61l0 z1358 b1361 false [0, 0, 0, 0, 0, 0]
                    (fun l1424 =>
                      k1452 false l1424 (5 : Int))
                    (
                      L_g61l2 z1358 b1361 false [0, 0, 0, 0, 0, 0]
                        (fun x1425 l1426 =>
                          k1452 false l1426 x1425)
                        (fun b1427 l1428 =>
                          G_g71 b1361 l1428
                            (fun b1429 =>
                              k1452 b1429 l1428 (0 : Int)))
                        (0 : Int) false [0, 0, 0, 0, 0, 0])
                    (0 : Int))))
             (
              L_g61l0 z1358 b1361 false [0, 0, 0, 0, 0, 0]
                (fun l1430 =>
                  k1452 false l1430 (5 : Int))
                (
                  L_g61l2 z1358 b1361 false [0, 0, 0, 0, 0, 0]
                    (fun x1431 l1432 =>
                      k1452 false l1432 x1431)
                    (fun b1433 l1434 =>
                      G_g71 b1361 l1434
                        (fun b1435 =>
                          k1452 b1435 l1434 (0 : Int)))
                    (0 : Int) false [0, 0, 0, 0, 0, 0])
                (0 : Int))
          else
            none))
    else
      none)
   (
    cond (bytesEq z1358 (⟨#[]⟩ : ByteArray))
     (
      k1452 false [0, 0, 0, 0, 0, 0] (5 : Int))
     (
      if 0 ≤ (0 : Int) ∧ (0 : Int) < z1358.size then
        cond ((byteAt z1358 (0 : Int).toNat) == (48 : Int))
         (
          cond (decide (((z1358.size : Nat) : Int) > (1 : Int)))
           (
            k1452 false [0, 0, 0, 0, 0, 0] (5 : Int))
           (
            L_g61l0 z1358 false false [0, 0, 0, 0, 0, 0]
              (fun l1440 =>
                k1452 false l1440 (5 : Int))
              (
                L_g61l2 z1358 false false [0, 0, 0, 0, 0, 0]
                  (fun x1441 l1442 =>
                    k1452 false l1442 x1441)
                  (fun b1443 l1444 =>
                    G_g71 false l1444
                      (fun b1445 =>
                        k1452 b1445 l1444 (0 : Int)))
                  (0 : Int) false [0, 0, 0, 0, 0, 0])
              (0 : Int)))
         (
          L_g61l0 z1358 false false [0, 0, 0, 0, 0, 0]
            (fun l1446 =>
              k1452 false l1446 (5 : Int))
            (
              L_g61l2 z1358 false false [0, 0, 0, 0, 0, 0]
                (fun x1447 l1448 =>
                  k1452 false l1448 x1447)
                (fun b1449 l1450 =>
                  G_g71 false l1450
                    (fun b1451 =>
                      k1452 b1451 l1450 (0 : Int)))
                (0 : Int) false [0, 0, 0, 0, 0, 0])
            (0 : Int))
      else
        none))
def g61 {α : Type} (m : Nat) : ByteArray → (Bool → (List Int) → Int → Option α) → Option α :=
  g61b (g66 m) (g97 m) (g81 m) (g71 m) (g61l0M m) (g61l2M m)
def g61tp : List TP := [(.vl (.sv .str))]
def g61bp : List BP := []
def g61K {α : Type} (G : ByteArray → (Bool → (List Int) → Int → Option α) → Option α) (ls : List Lf) (k : TV → List (List Seg) → List (List Seg) → Option α) : Option α :=
  G (lf ls 0).str
    (fun y0 y1 y2 => k (.tup [(.agg [(.one (.bool y0)), (.seq (.int .u32) 6 y1)]), (.sv (.int .i64 y2))]) [] [])
def g61hd (G_g66 : {α : Type} → Int → (Bool → (List Int) → Option α) → Option α) (G_g97 : {α : Type} → Bool → (List Int) → Bool → (List Int) → (Bool → (List Int) → Int → Option α) → Option α) (G_g81 : {α : Type} → Bool → (List Int) → Bool → (List Int) → (Bool → (List Int) → Int → Option α) → Option α) (G_g71 : {α : Type} → Bool → (List Int) → (Bool → Option α) → Option α) (L_g61l0 : {α : Type} → ByteArray → Bool → Bool → (List Int) → ((List Int) → Option α) → (Option α) → Int → Option α) (L_g61l2 : {α : Type} → ByteArray → Bool → Bool → (List Int) → (Int → (List Int) → Option α) → (Bool → (List Int) → Option α) → Int → Bool → (List Int) → Option α) : Hd where
  call := fun f args Bs k => cond (Nat.beq f 66) (rowK g66tp g66bp (g66K G_g66) args Bs k) (cond (Nat.beq f 97) (rowK g97tp g97bp (g97K G_g97) args Bs k) (cond (Nat.beq f 81) (rowK g81tp g81bp (g81K G_g81) args Bs k) (cond (Nat.beq f 71) (rowK g71tp g71bp (g71K G_g71) args Bs k) (none))))
  loop := fun id st k => cond (Nat.beq id 0) (loopH g61l0D (g61l0K L_g61l0) st k) (cond (Nat.beq id 2) (loopH g61l2D (g61l2K L_g61l2) st k) (none))
  ro := fun f => []
def g61h (m : Nat) : Hd := g61hd (g66 m) (g97 m) (g81 m) (g71 m) (g61l0M m) (g61l2M m)
theorem g61l0Step (G_g66 : {α : Type} → Int → (Bool → (List Int) → Option α) → Option α) (G_g97 : {α : Type} → Bool → (List Int) → Bool → (List Int) → (Bool → (List Int) → Int → Option α) → Option α) (G_g81 : {α : Type} → Bool → (List Int) → Bool → (List Int) → (Bool → (List Int) → Int → Option α) → Option α) (G_g71 : {α : Type} → Bool → (List Int) → (Bool → Option α) → Option α) (L_g61l0 : {α : Type} → ByteArray → Bool → Bool → (List Int) → ((List Int) → Option α) → (Option α) → Int → Option α) (L_g61l2 : {α : Type} → ByteArray → Bool → Bool → (List Int) → (Int → (List Int) → Option α) → (Bool → (List Int) → Option α) → Int → Bool → (List Int) → Option α) {α : Type} (L : ByteArray → Bool → Bool → (List Int) → ((List Int) → Option α) → (Option α) → Int → Option α) (ls : List Lf) (k : Ex → St → Option α) :
    g61l0K (fun z1367 c1368 c1370 a1371 k1378 k1379 v1369 => g61l0b z1367 c1368 c1370 a1371 k1378 k1379 (L z1367 c1368 c1370 a1371 k1378 k1379) v1369) ls k = ev tab (g61hd G_g66 G_g97 G_g81 G_g71 L_g61l0 L_g61l2) (bodyAt Go.Proofs.Try.f61 0) (atHead g61l0D ls) (loopK g61l0D 0 (loopH g61l0D (g61l0K L)) k) := by kernel_rfl
theorem g61l2Step (G_g66 : {α : Type} → Int → (Bool → (List Int) → Option α) → Option α) (G_g97 : {α : Type} → Bool → (List Int) → Bool → (List Int) → (Bool → (List Int) → Int → Option α) → Option α) (G_g81 : {α : Type} → Bool → (List Int) → Bool → (List Int) → (Bool → (List Int) → Int → Option α) → Option α) (G_g71 : {α : Type} → Bool → (List Int) → (Bool → Option α) → Option α) (L_g61l0 : {α : Type} → ByteArray → Bool → Bool → (List Int) → ((List Int) → Option α) → (Option α) → Int → Option α) (L_g61l2 : {α : Type} → ByteArray → Bool → Bool → (List Int) → (Int → (List Int) → Option α) → (Bool → (List Int) → Option α) → Int → Bool → (List Int) → Option α) {α : Type} (L : ByteArray → Bool → Bool → (List Int) → (Int → (List Int) → Option α) → (Bool → (List Int) → Option α) → Int → Bool → (List Int) → Option α) (ls : List Lf) (k : Ex → St → Option α) :
    g61l2K (fun z1382 c1383 c1385 a1386 k1406 k1407 v1384 c1387 a1388 => g61l2b G_g66 G_g97 G_g81 z1382 c1383 c1385 a1386 k1406 k1407 (L z1382 c1383 c1385 a1386 k1406 k1407) v1384 c1387 a1388) ls k = ev tab (g61hd G_g66 G_g97 G_g81 G_g71 L_g61l0 L_g61l2) (bodyAt Go.Proofs.Try.f61 2) (atHead g61l2D ls) (loopK g61l2D 2 (loopH g61l2D (g61l2K L)) k) := by kernel_rfl
theorem g61Main (G_g66 : {α : Type} → Int → (Bool → (List Int) → Option α) → Option α) (G_g97 : {α : Type} → Bool → (List Int) → Bool → (List Int) → (Bool → (List Int) → Int → Option α) → Option α) (G_g81 : {α : Type} → Bool → (List Int) → Bool → (List Int) → (Bool → (List Int) → Int → Option α) → Option α) (G_g71 : {α : Type} → Bool → (List Int) → (Bool → Option α) → Option α) (L_g61l0 : {α : Type} → ByteArray → Bool → Bool → (List Int) → ((List Int) → Option α) → (Option α) → Int → Option α) (L_g61l2 : {α : Type} → ByteArray → Bool → Bool → (List Int) → (Int → (List Int) → Option α) → (Bool → (List Int) → Option α) → Int → Bool → (List Int) → Option α) {α : Type} (ls : List Lf) (k : TV → List (List Seg) → List (List Seg) → Option α) :
    g61K (g61b G_g66 G_g97 G_g81 G_g71 L_g61l0 L_g61l2) ls k = evFun tab (g61hd G_g66 G_g97 G_g81 G_g71 L_g61l0 L_g61l2) Go.Proofs.Try.f61 (fillT g61tp ls).1 (fillB g61bp (fillT g61tp ls).2).1 k := by kernel_rfl
theorem g61Calls (m : Nat) : (g61h m).CallsOk Go.Proofs.Try.prog := (cok_cons (g66Ok m) (cok_cons (g97Ok m) (cok_cons (g81Ok m) (cok_cons (g71Ok m) cok_nil))))
theorem g61l0Ok (m : Nat) (α : Type) (st : St) (k : Ex → St → Option α) (r : α) (h : (g61h m).loop 0 st k = some r) :
    ∃ e st', k e st' = some r ∧ CodeS Go.Proofs.Try.prog (.block 0 (.loop (bodyAt Go.Proofs.Try.f61 0))) st e st' :=
  loop_ok (tab := tab) (h := g61h m) (F := fun n ls k => g61l0K (fun z1367 c1368 c1370 a1371 k1378 k1379 v1369 => g61l0 z1367 c1368 c1370 a1371 k1378 k1379 n v1369) ls k) tabOk (g61Calls m) mixed (loopsOk_of _ (fun p hp => by rw [show loopsOf (bodyAt Go.Proofs.Try.f61 0) = [] by kernel_rfl] at hp; cases hp))
    (fun _ _ => rfl) (fun n ls k => g61l0Step (g66 m) (g97 m) (g81 m) (g71 m) (g61l0M m) (g61l2M m) (fun z1367 c1368 c1370 a1371 k1378 k1379 => g61l0 z1367 c1368 c1370 a1371 k1378 k1379 n) ls k) (n := m) h
theorem g61l2Ok (m : Nat) (α : Type) (st : St) (k : Ex → St → Option α) (r : α) (h : (g61h m).loop 2 st k = some r) :
    ∃ e st', k e st' = some r ∧ CodeS Go.Proofs.Try.prog (.block 2 (.loop (bodyAt Go.Proofs.Try.f61 2))) st e st' :=
  loop_ok (tab := tab) (h := g61h m) (F := fun n ls k => g61l2K (fun z1382 c1383 c1385 a1386 k1406 k1407 v1384 c1387 a1388 => g61l2 (g66 m) (g97 m) (g81 m) z1382 c1383 c1385 a1386 k1406 k1407 n v1384 c1387 a1388) ls k) tabOk (g61Calls m) mixed (loopsOk_of _ (fun p hp => by rw [show loopsOf (bodyAt Go.Proofs.Try.f61 2) = [] by kernel_rfl] at hp; cases hp))
    (fun _ _ => rfl) (fun n ls k => g61l2Step (g66 m) (g97 m) (g81 m) (g71 m) (g61l0M m) (g61l2M m) (fun z1382 c1383 c1385 a1386 k1406 k1407 => g61l2 (g66 m) (g97 m) (g81 m) z1382 c1383 c1385 a1386 k1406 k1407 n) ls k) (n := m) h
theorem g61Fn (m : Nat) : FnOk Go.Proofs.Try.prog 61 g61tp g61bp (fun {α} => g61K (g61 (α := α) m)) :=
  fn_ok (tab := tab) (h := g61h m) (fn := Go.Proofs.Try.f61) (F := fun {α} => g61K (g61 (α := α) m)) tabOk (g61Calls m) mixed (by kernel_rfl) (by kernel_rfl) (fun c hc => by
    rw [bodyOf_some hc]
    exact loopsOk_of _ (fun p hp => by
    rw [show loopsOf (bodyOf Go.Proofs.Try.f61) = [(0, bodyAt Go.Proofs.Try.f61 0), (2, bodyAt Go.Proofs.Try.f61 2)] by kernel_rfl] at hp
    simp only [List.mem_cons, List.not_mem_nil, or_false] at hp
    rcases hp with rfl | rfl
    · exact g61l0Ok m
    · exact g61l2Ok m))
    (fun α ls k => g61Main (g66 m) (g97 m) (g81 m) (g71 m) (g61l0M m) (g61l2M m) ls k)
theorem g61Ok (m : Nat) : RowOk Go.Proofs.Try.prog 61 (fun {α} => rowK g61tp g61bp (g61K (g61 (α := α) m))) := row_of (g61Fn m)

/-! ### g127: internal/stringslite.HasPrefix -/
def g127b {α : Type}   (z1462 : ByteArray) (z1463 : ByteArray) (k1467 : Bool → Option α) : Option α :=
  cond (decide (((z1462.size : Nat) : Int) ≥ ((z1463.size : Nat) : Int)))
   (
    if 0 ≤ (0 : Int) ∧ (0 : Int) ≤ ((z1463.size : Nat) : Int) ∧ ((z1463.size : Nat) : Int) ≤ ((z1462.size : Nat) : Int) then
      k1467 (bytesEq (ByteArray.extract z1462 0 (Int.toNat ((z1463.size : Nat) : Int))) z1463)
    else
      none)
   (
    k1467 false)
def g127 {α : Type} (m : Nat) : ByteArray → ByteArray → (Bool → Option α) → Option α :=
  g127b
def g127tp : List TP := [(.vl (.sv .str)), (.vl (.sv .str))]
def g127bp : List BP := []
def g127K {α : Type} (G : ByteArray → ByteArray → (Bool → Option α) → Option α) (ls : List Lf) (k : TV → List (List Seg) → List (List Seg) → Option α) : Option α :=
  G (lf ls 0).str (lf ls 1).str
    (fun y0 => k (.vl (.sv (.bool y0))) [] [])
def g127hd   : Hd where
  call := fun f args Bs k => none
  loop := fun id st k => none
  ro := fun f => []
def g127h (m : Nat) : Hd := g127hd
theorem g127Main   {α : Type} (ls : List Lf) (k : TV → List (List Seg) → List (List Seg) → Option α) :
    g127K (g127b) ls k = evFun tab (g127hd) Go.Proofs.Try.f127 (fillT g127tp ls).1 (fillB g127bp (fillT g127tp ls).2).1 k := by kernel_rfl
theorem g127Calls (m : Nat) : (g127h m).CallsOk Go.Proofs.Try.prog := cok_nil
theorem g127Fn (m : Nat) : FnOk Go.Proofs.Try.prog 127 g127tp g127bp (fun {α} => g127K (g127 (α := α) m)) :=
  fn_ok (tab := tab) (h := g127h m) (fn := Go.Proofs.Try.f127) (F := fun {α} => g127K (g127 (α := α) m)) tabOk (g127Calls m) mixed (by kernel_rfl) (by kernel_rfl) (fun c hc => by
    rw [bodyOf_some hc]
    exact loopsOk_of _ (fun p hp => by rw [show loopsOf (bodyOf Go.Proofs.Try.f127) = [] by kernel_rfl] at hp; cases hp))
    (fun α ls k => g127Main ls k)
theorem g127Ok (m : Nat) : RowOk Go.Proofs.Try.prog 127 (fun {α} => rowK g127tp g127bp (g127K (g127 (α := α) m))) := row_of (g127Fn m)

/-! ### g123: internal/stringslite.TrimPrefix -/
def g123b {α : Type} (G_g127 : {α : Type} → ByteArray → ByteArray → (Bool → Option α) → Option α)  (z1460 : ByteArray) (z1461 : ByteArray) (k1470 : ByteArray → Option α) : Option α :=
  G_g127 z1460 z1461
    (fun b1468 =>
      cond b1468
       (
        if 0 ≤ ((z1461.size : Nat) : Int) ∧ ((z1461.size : Nat) : Int) ≤ ((z1460.size : Nat) : Int) ∧ ((z1460.size : Nat) : Int) ≤ ((z1460.size : Nat) : Int) then
          k1470 (ByteArray.extract z1460 (Int.toNat ((z1461.size : Nat) : Int)) (Int.toNat ((z1460.size : Nat) : Int)))
        else
          none)
       (
        k1470 z1460))
def g123 {α : Type} (m : Nat) : ByteArray → ByteArray → (ByteArray → Option α) → Option α :=
  g123b (g127 m)
def g123tp : List TP := [(.vl (.sv .str)), (.vl (.sv .str))]
def g123bp : List BP := []
def g123K {α : Type} (G : ByteArray → ByteArray → (ByteArray → Option α) → Option α) (ls : List Lf) (k : TV → List (List Seg) → List (List Seg) → Option α) : Option α :=
  G (lf ls 0).str (lf ls 1).str
    (fun y0 => k (.vl (.sv (.str y0))) [] [])
def g123hd (G_g127 : {α : Type} → ByteArray → ByteArray → (Bool → Option α) → Option α)  : Hd where
  call := fun f args Bs k => cond (Nat.beq f 127) (rowK g127tp g127bp (g127K G_g127) args Bs k) (none)
  loop := fun id st k => none
  ro := fun f => []
def g123h (m : Nat) : Hd := g123hd (g127 m)
theorem g123Main (G_g127 : {α : Type} → ByteArray → ByteArray → (Bool → Option α) → Option α)  {α : Type} (ls : List Lf) (k : TV → List (List Seg) → List (List Seg) → Option α) :
    g123K (g123b G_g127) ls k = evFun tab (g123hd G_g127) Go.Proofs.Try.f123 (fillT g123tp ls).1 (fillB g123bp (fillT g123tp ls).2).1 k := by kernel_rfl
theorem g123Calls (m : Nat) : (g123h m).CallsOk Go.Proofs.Try.prog := (cok_cons (g127Ok m) cok_nil)
theorem g123Fn (m : Nat) : FnOk Go.Proofs.Try.prog 123 g123tp g123bp (fun {α} => g123K (g123 (α := α) m)) :=
  fn_ok (tab := tab) (h := g123h m) (fn := Go.Proofs.Try.f123) (F := fun {α} => g123K (g123 (α := α) m)) tabOk (g123Calls m) mixed (by kernel_rfl) (by kernel_rfl) (fun c hc => by
    rw [bodyOf_some hc]
    exact loopsOk_of _ (fun p hp => by rw [show loopsOf (bodyOf Go.Proofs.Try.f123) = [] by kernel_rfl] at hp; cases hp))
    (fun α ls k => g123Main (g127 m) ls k)
theorem g123Ok (m : Nat) : RowOk Go.Proofs.Try.prog 123 (fun {α} => rowK g123tp g123bp (g123K (g123 (α := α) m))) := row_of (g123Fn m)

/-! ### g104: strings.TrimPrefix -/
def g104b {α : Type} (G_g123 : {α : Type} → ByteArray → ByteArray → (ByteArray → Option α) → Option α)  (z1458 : ByteArray) (z1459 : ByteArray) (k1472 : ByteArray → Option α) : Option α :=
  G_g123 z1458 z1459
    (fun s1471 =>
      k1472 s1471)
def g104 {α : Type} (m : Nat) : ByteArray → ByteArray → (ByteArray → Option α) → Option α :=
  g104b (g123 m)
def g104tp : List TP := [(.vl (.sv .str)), (.vl (.sv .str))]
def g104bp : List BP := []
def g104K {α : Type} (G : ByteArray → ByteArray → (ByteArray → Option α) → Option α) (ls : List Lf) (k : TV → List (List Seg) → List (List Seg) → Option α) : Option α :=
  G (lf ls 0).str (lf ls 1).str
    (fun y0 => k (.vl (.sv (.str y0))) [] [])
def g104hd (G_g123 : {α : Type} → ByteArray → ByteArray → (ByteArray → Option α) → Option α)  : Hd where
  call := fun f args Bs k => cond (Nat.beq f 123) (rowK g123tp g123bp (g123K G_g123) args Bs k) (none)
  loop := fun id st k => none
  ro := fun f => []
def g104h (m : Nat) : Hd := g104hd (g123 m)
theorem g104Main (G_g123 : {α : Type} → ByteArray → ByteArray → (ByteArray → Option α) → Option α)  {α : Type} (ls : List Lf) (k : TV → List (List Seg) → List (List Seg) → Option α) :
    g104K (g104b G_g123) ls k = evFun tab (g104hd G_g123) Go.Proofs.Try.f104 (fillT g104tp ls).1 (fillB g104bp (fillT g104tp ls).2).1 k := by kernel_rfl
theorem g104Calls (m : Nat) : (g104h m).CallsOk Go.Proofs.Try.prog := (cok_cons (g123Ok m) cok_nil)
theorem g104Fn (m : Nat) : FnOk Go.Proofs.Try.prog 104 g104tp g104bp (fun {α} => g104K (g104 (α := α) m)) :=
  fn_ok (tab := tab) (h := g104h m) (fn := Go.Proofs.Try.f104) (F := fun {α} => g104K (g104 (α := α) m)) tabOk (g104Calls m) mixed (by kernel_rfl) (by kernel_rfl) (fun c hc => by
    rw [bodyOf_some hc]
    exact loopsOk_of _ (fun p hp => by rw [show loopsOf (bodyOf Go.Proofs.Try.f104) = [] by kernel_rfl] at hp; cases hp))
    (fun α ls k => g104Main (g123 m) ls k)
theorem g104Ok (m : Nat) : RowOk Go.Proofs.Try.prog 104 (fun {α} => rowK g104tp g104bp (g104K (g104 (α := α) m))) := row_of (g104Fn m)

/-! ### g103: impl.integerText -/
def g103l0b {α : Type}   (z1478 : ByteArray) (k1486 : Option α) (k1487 : Option α) (r1488 : Int → Option α) (v1479 : Int) : Option α :=
  cond (decide (v1479 < ((z1478.size : Nat) : Int)))
   (
    if 0 ≤ v1479 ∧ v1479 < z1478.size then
      cond (decide ((byteAt z1478 v1479.toNat) < (48 : Int)))
       (
        k1486)
       (
        if 0 ≤ v1479 ∧ v1479 < z1478.size then
          cond (decide ((byteAt z1478 v1479.toNat) > (57 : Int)))
           (
            k1486)
           (
            r1488 (IntKind.wrap .i64 (v1479 + (1 : Int))))
        else
          none)
    else
      none)
   (
    k1487)
def g103l0 {α : Type}   (z1478 : ByteArray) (k1486 : Option α) (k1487 : Option α) : Nat → Int → Option α
  | 0 => fun _ => none
  | m + 1 => fun v1479 => g103l0b z1478 k1486 k1487 (g103l0 z1478 k1486 k1487 m) v1479
def g103l0M {α : Type} (m : Nat) : ByteArray → (Option α) → (Option α) → Int → Option α :=
  fun z1478 k1486 k1487 v1479 => g103l0 z1478 k1486 k1487 m v1479
def g103l0D : LoopD := { n := 34, sl := [3, 4], bl := [], tp := [(.vl (.sv .str)), (.vl (.sv (.int .i64)))], bp := [], xs := [(1, [2], []), (2, [], [])] }
def g103l0K {α : Type} (L : ByteArray → (Option α) → (Option α) → Int → Option α) (ls : List Lf) (k : Ex → St → Option α) : Option α :=
  L (lf ls 0).str
    (k .ret (mkSt 34 [2] [(.vl (.sv (.bool false)))] [] []))
    (k .normal (mkSt 34 [] [] [] []))
    (lf ls 1).int
def g103b {α : Type} (G_g104 : {α : Type} → ByteArray → ByteArray → (ByteArray → Option α) → Option α) (L_g103l0 : {α : Type} → ByteArray → (Option α) → (Option α) → Int → Option α) (z1457 : ByteArray) (k1489 : Bool → Option α) : Option α :=
  G_g104 z1457 (⟨#[45]⟩ : ByteArray)
    (fun s1473 =>
      cond (bytesEq s1473 (⟨#[]⟩ : ByteArray))
       (
        k1489 false)
       (
        if 0 ≤ (0 : Int) ∧ (0 : Int) < s1473.size then
          cond ((byteAt s1473 (0 : Int).toNat) == (48 : Int))
           (
            cond (!bytesEq z1457 (⟨#[48]⟩ : ByteArray))
             (
              k1489 false)
             (
              L_g103l0 s1473
                (
                  k1489 false)
                (
                  k1489 true)
                (0 : Int)))
           (
            L_g103l0 s1473
              (
                k1489 false)
              (
                k1489 true)
              (0 : Int))
        else
          none))
def g103 {α : Type} (m : Nat) : ByteArray → (Bool → Option α) → Option α :=
  g103b (g104 m) (g103l0M m)
def g103tp : List TP := [(.vl (.sv .str))]
def g103bp : List BP := []
def g103K {α : Type} (G : ByteArray → (Bool → Option α) → Option α) (ls : List Lf) (k : TV → List (List Seg) → List (List Seg) → Option α) : Option α :=
  G (lf ls 0).str
    (fun y0 => k (.vl (.sv (.bool y0))) [] [])
def g103hd (G_g104 : {α : Type} → ByteArray → ByteArray → (ByteArray → Option α) → Option α) (L_g103l0 : {α : Type} → ByteArray → (Option α) → (Option α) → Int → Option α) : Hd where
  call := fun f args Bs k => cond (Nat.beq f 104) (rowK g104tp g104bp (g104K G_g104) args Bs k) (none)
  loop := fun id st k => cond (Nat.beq id 0) (loopH g103l0D (g103l0K L_g103l0) st k) (none)
  ro := fun f => []
def g103h (m : Nat) : Hd := g103hd (g104 m) (g103l0M m)
theorem g103l0Step (G_g104 : {α : Type} → ByteArray → ByteArray → (ByteArray → Option α) → Option α) (L_g103l0 : {α : Type} → ByteArray → (Option α) → (Option α) → Int → Option α) {α : Type} (L : ByteArray → (Option α) → (Option α) → Int → Option α) (ls : List Lf) (k : Ex → St → Option α) :
    g103l0K (fun z1478 k1486 k1487 v1479 => g103l0b z1478 k1486 k1487 (L z1478 k1486 k1487) v1479) ls k = ev tab (g103hd G_g104 L_g103l0) (bodyAt Go.Proofs.Try.f103 0) (atHead g103l0D ls) (loopK g103l0D 0 (loopH g103l0D (g103l0K L)) k) := by kernel_rfl
theorem g103Main (G_g104 : {α : Type} → ByteArray → ByteArray → (ByteArray → Option α) → Option α) (L_g103l0 : {α : Type} → ByteArray → (Option α) → (Option α) → Int → Option α) {α : Type} (ls : List Lf) (k : TV → List (List Seg) → List (List Seg) → Option α) :
    g103K (g103b G_g104 L_g103l0) ls k = evFun tab (g103hd G_g104 L_g103l0) Go.Proofs.Try.f103 (fillT g103tp ls).1 (fillB g103bp (fillT g103tp ls).2).1 k := by kernel_rfl
theorem g103Calls (m : Nat) : (g103h m).CallsOk Go.Proofs.Try.prog := (cok_cons (g104Ok m) cok_nil)
theorem g103l0Ok (m : Nat) (α : Type) (st : St) (k : Ex → St → Option α) (r : α) (h : (g103h m).loop 0 st k = some r) :
    ∃ e st', k e st' = some r ∧ CodeS Go.Proofs.Try.prog (.block 0 (.loop (bodyAt Go.Proofs.Try.f103 0))) st e st' :=
  loop_ok (tab := tab) (h := g103h m) (F := fun n ls k => g103l0K (fun z1478 k1486 k1487 v1479 => g103l0 z1478 k1486 k1487 n v1479) ls k) tabOk (g103Calls m) mixed (loopsOk_of _ (fun p hp => by rw [show loopsOf (bodyAt Go.Proofs.Try.f103 0) = [] by kernel_rfl] at hp; cases hp))
    (fun _ _ => rfl) (fun n ls k => g103l0Step (g104 m) (g103l0M m) (fun z1478 k1486 k1487 => g103l0 z1478 k1486 k1487 n) ls k) (n := m) h
theorem g103Fn (m : Nat) : FnOk Go.Proofs.Try.prog 103 g103tp g103bp (fun {α} => g103K (g103 (α := α) m)) :=
  fn_ok (tab := tab) (h := g103h m) (fn := Go.Proofs.Try.f103) (F := fun {α} => g103K (g103 (α := α) m)) tabOk (g103Calls m) mixed (by kernel_rfl) (by kernel_rfl) (fun c hc => by
    rw [bodyOf_some hc]
    exact loopsOk_of _ (fun p hp => by
    rw [show loopsOf (bodyOf Go.Proofs.Try.f103) = [(0, bodyAt Go.Proofs.Try.f103 0)] by kernel_rfl] at hp
    simp only [List.mem_cons, List.not_mem_nil, or_false] at hp
    rcases hp with rfl
    exact g103l0Ok m))
    (fun α ls k => g103Main (g104 m) (g103l0M m) ls k)
theorem g103Ok (m : Nat) : RowOk Go.Proofs.Try.prog 103 (fun {α} => rowK g103tp g103bp (g103K (g103 (α := α) m))) := row_of (g103Fn m)

/-! ### g62: impl.ReadWide -/
def g62l0b {α : Type} (G_g26 : {α : Type} → Int → (Bool → (List Int) → Option α) → Option α) (G_g78 : {α : Type} → Bool → (List Int) → Bool → (List Int) → Bool → (Bool → (List Int) → Bool → Option α) → Option α) (G_g79 : {α : Type} → Bool → (List Int) → Bool → (List Int) → Bool → (Bool → (List Int) → Bool → Option α) → Option α)  (z1493 : ByteArray) (z1494 : ByteArray) (c1496 : Bool) (a1497 : List Int) (k1517 : Bool → Bool → (List Int) → Option α) (r1518 : Int → Bool → Bool → (List Int) → Option α) (v1495 : Int) (c1498 : Bool) (c1499 : Bool) (a1500 : List Int) : Option α :=
  cond (decide (v1495 < ((z1494.size : Nat) : Int)))
   (
    cond (!c1498)
     (
      G_g26 (10 : Int)
        (fun b1503 l1504 =>
          G_g78 c1499 a1500 b1503 l1504 c1498
            (fun b1505 l1506 b1507 =>
              if 0 ≤ v1495 ∧ v1495 < z1494.size then
                G_g26 (IntKind.wrap .i64 (IntKind.wrap .u8 ((byteAt z1494 v1495.toNat) - (48 : Int))))
                  (fun b1511 l1512 =>
                    G_g79 b1505 l1506 b1511 l1512 b1507
                      (fun b1513 l1514 b1515 =>
                        r1518 (IntKind.wrap .i64 (v1495 + (1 : Int))) b1515 b1513 l1514))
              else
                none)))
     (
      k1517 c1498 c1499 a1500))
   (
    k1517 c1498 c1499 a1500)
def g62l0 {α : Type} (G_g26 : {α : Type} → Int → (Bool → (List Int) → Option α) → Option α) (G_g78 : {α : Type} → Bool → (List Int) → Bool → (List Int) → Bool → (Bool → (List Int) → Bool → Option α) → Option α) (G_g79 : {α : Type} → Bool → (List Int) → Bool → (List Int) → Bool → (Bool → (List Int) → Bool → Option α) → Option α)  (z1493 : ByteArray) (z1494 : ByteArray) (c1496 : Bool) (a1497 : List Int) (k1517 : Bool → Bool → (List Int) → Option α) : Nat → Int → Bool → Bool → (List Int) → Option α
  | 0 => fun _ _ _ _ => none
  | m + 1 => fun v1495 c1498 c1499 a1500 => g62l0b G_g26 G_g78 G_g79 z1493 z1494 c1496 a1497 k1517 (g62l0 G_g26 G_g78 G_g79 z1493 z1494 c1496 a1497 k1517 m) v1495 c1498 c1499 a1500
def g62l0M {α : Type} (m : Nat) : ByteArray → ByteArray → Bool → (List Int) → (Bool → Bool → (List Int) → Option α) → Int → Bool → Bool → (List Int) → Option α :=
  fun z1493 z1494 c1496 a1497 k1517 v1495 c1498 c1499 a1500 => g62l0 (g26 m) (g78 m) (g79 m) z1493 z1494 c1496 a1497 k1517 m v1495 c1498 c1499 a1500
def g62l0D : LoopD := { n := 45, sl := [0, 2, 4, 5, 6, 7], bl := [1002, 1005, 1006], tp := [(.vl (.sv .str)), (.vl (.sv (.ptr 1002 0))), (.vl (.sv .str)), (.vl (.sv (.ptr 1005 0))), (.vl (.sv (.ptr 1006 0))), (.vl (.sv (.int .i64)))], bp := [(true, [(.one .bool), (.seq (.int .u32) 6)]), (true, [(.one .bool)]), (true, [(.one .bool), (.seq (.int .u32) 6)])], xs := [(2, [0, 2, 5, 6], [1002, 1005, 1006])] }
def g62l0K {α : Type} (L : ByteArray → ByteArray → Bool → (List Int) → (Bool → Bool → (List Int) → Option α) → Int → Bool → Bool → (List Int) → Option α) (ls : List Lf) (k : Ex → St → Option α) : Option α :=
  L (lf ls 0).str (lf ls 1).str (lf ls 3).bool ((lf ls 4).lst (.int .u32))
    (fun y3 y4 y5 => k .normal (mkSt 45 [0, 2, 5, 6] [(.vl (.sv (.str (lf ls 0).str))), (.vl (.sv (.ptr 1002 0))), (.vl (.sv (.ptr 1005 0))), (.vl (.sv (.ptr 1006 0)))] [1002, 1005, 1006] [(true, [(.one (.bool (lf ls 3).bool)), (.seq (.int .u32) 6 ((lf ls 4).lst (.int .u32)))]), (true, [(.one (.bool y3))]), (true, [(.one (.bool y4)), (.seq (.int .u32) 6 y5)])]))
    (lf ls 2).int (lf ls 5).bool (lf ls 6).bool ((lf ls 7).lst (.int .u32))
def g62b {α : Type} (G_g103 : {α : Type} → ByteArray → (Bool → Option α) → Option α) (G_g104 : {α : Type} → ByteArray → ByteArray → (ByteArray → Option α) → Option α) (G_g26 : {α : Type} → Int → (Bool → (List Int) → Option α) → Option α) (G_g78 : {α : Type} → Bool → (List Int) → Bool → (List Int) → Bool → (Bool → (List Int) → Bool → Option α) → Option α) (G_g79 : {α : Type} → Bool → (List Int) → Bool → (List Int) → Bool → (Bool → (List Int) → Bool → Option α) → Option α) (G_g74 : {α : Type} → Bool → (List Int) → Bool → (Bool → (List Int) → Int → Option α) → Option α) (L_g62l0 : {α : Type} → ByteArray → ByteArray → Bool → (List Int) → (Bool → Bool → (List Int) → Option α) → Int → Bool → Bool → (List Int) → Option α) (z1456 : ByteArray) (k1527 : Bool → (List Int) → Int → Option α) : Option α :=
  G_g103 z1456
    (fun b1490 =>
      cond (!b1490)
       (
        k1527 false [0, 0, 0, 0, 0, 0] (5 : Int))
       (
        G_g104 z1456 (⟨#[45]⟩ : ByteArray)
          (fun s1492 =>
            L_g62l0 z1456 s1492 false [0, 0, 0, 0, 0, 0]
              (fun b1519 b1520 l1521 =>
                if 0 ≤ (0 : Int) ∧ (0 : Int) < z1456.size then
                  G_g74 ((byteAt z1456 (0 : Int).toNat) == (45 : Int)) l1521 b1519
                    (fun b1524 l1525 x1526 =>
                      k1527 b1524 l1525 x1526)
                else
                  none)
              (0 : Int) false false [0, 0, 0, 0, 0, 0])))
def g62 {α : Type} (m : Nat) : ByteArray → (Bool → (List Int) → Int → Option α) → Option α :=
  g62b (g103 m) (g104 m) (g26 m) (g78 m) (g79 m) (g74 m) (g62l0M m)
def g62tp : List TP := [(.vl (.sv .str))]
def g62bp : List BP := []
def g62K {α : Type} (G : ByteArray → (Bool → (List Int) → Int → Option α) → Option α) (ls : List Lf) (k : TV → List (List Seg) → List (List Seg) → Option α) : Option α :=
  G (lf ls 0).str
    (fun y0 y1 y2 => k (.tup [(.agg [(.one (.bool y0)), (.seq (.int .u32) 6 y1)]), (.sv (.int .i64 y2))]) [] [])
def g62hd (G_g103 : {α : Type} → ByteArray → (Bool → Option α) → Option α) (G_g104 : {α : Type} → ByteArray → ByteArray → (ByteArray → Option α) → Option α) (G_g26 : {α : Type} → Int → (Bool → (List Int) → Option α) → Option α) (G_g78 : {α : Type} → Bool → (List Int) → Bool → (List Int) → Bool → (Bool → (List Int) → Bool → Option α) → Option α) (G_g79 : {α : Type} → Bool → (List Int) → Bool → (List Int) → Bool → (Bool → (List Int) → Bool → Option α) → Option α) (G_g74 : {α : Type} → Bool → (List Int) → Bool → (Bool → (List Int) → Int → Option α) → Option α) (L_g62l0 : {α : Type} → ByteArray → ByteArray → Bool → (List Int) → (Bool → Bool → (List Int) → Option α) → Int → Bool → Bool → (List Int) → Option α) : Hd where
  call := fun f args Bs k => cond (Nat.beq f 103) (rowK g103tp g103bp (g103K G_g103) args Bs k) (cond (Nat.beq f 104) (rowK g104tp g104bp (g104K G_g104) args Bs k) (cond (Nat.beq f 26) (rowK g26tp g26bp (g26K G_g26) args Bs k) (cond (Nat.beq f 78) (rowK g78tp g78bp (g78K G_g78) args Bs k) (cond (Nat.beq f 79) (rowK g79tp g79bp (g79K G_g79) args Bs k) (cond (Nat.beq f 74) (rowK g74tp g74bp (g74K G_g74) args Bs k) (none))))))
  loop := fun id st k => cond (Nat.beq id 0) (loopH g62l0D (g62l0K L_g62l0) st k) (none)
  ro := fun f => cond (Nat.beq f 74) [0] ([])
def g62h (m : Nat) : Hd := g62hd (g103 m) (g104 m) (g26 m) (g78 m) (g79 m) (g74 m) (g62l0M m)
theorem g62l0Step (G_g103 : {α : Type} → ByteArray → (Bool → Option α) → Option α) (G_g104 : {α : Type} → ByteArray → ByteArray → (ByteArray → Option α) → Option α) (G_g26 : {α : Type} → Int → (Bool → (List Int) → Option α) → Option α) (G_g78 : {α : Type} → Bool → (List Int) → Bool → (List Int) → Bool → (Bool → (List Int) → Bool → Option α) → Option α) (G_g79 : {α : Type} → Bool → (List Int) → Bool → (List Int) → Bool → (Bool → (List Int) → Bool → Option α) → Option α) (G_g74 : {α : Type} → Bool → (List Int) → Bool → (Bool → (List Int) → Int → Option α) → Option α) (L_g62l0 : {α : Type} → ByteArray → ByteArray → Bool → (List Int) → (Bool → Bool → (List Int) → Option α) → Int → Bool → Bool → (List Int) → Option α) {α : Type} (L : ByteArray → ByteArray → Bool → (List Int) → (Bool → Bool → (List Int) → Option α) → Int → Bool → Bool → (List Int) → Option α) (ls : List Lf) (k : Ex → St → Option α) :
    g62l0K (fun z1493 z1494 c1496 a1497 k1517 v1495 c1498 c1499 a1500 => g62l0b G_g26 G_g78 G_g79 z1493 z1494 c1496 a1497 k1517 (L z1493 z1494 c1496 a1497 k1517) v1495 c1498 c1499 a1500) ls k = ev tab (g62hd G_g103 G_g104 G_g26 G_g78 G_g79 G_g74 L_g62l0) (bodyAt Go.Proofs.Try.f62 0) (atHead g62l0D ls) (loopK g62l0D 0 (loopH g62l0D (g62l0K L)) k) := by kernel_rfl
theorem g62Main (G_g103 : {α : Type} → ByteArray → (Bool → Option α) → Option α) (G_g104 : {α : Type} → ByteArray → ByteArray → (ByteArray → Option α) → Option α) (G_g26 : {α : Type} → Int → (Bool → (List Int) → Option α) → Option α) (G_g78 : {α : Type} → Bool → (List Int) → Bool → (List Int) → Bool → (Bool → (List Int) → Bool → Option α) → Option α) (G_g79 : {α : Type} → Bool → (List Int) → Bool → (List Int) → Bool → (Bool → (List Int) → Bool → Option α) → Option α) (G_g74 : {α : Type} → Bool → (List Int) → Bool → (Bool → (List Int) → Int → Option α) → Option α) (L_g62l0 : {α : Type} → ByteArray → ByteArray → Bool → (List Int) → (Bool → Bool → (List Int) → Option α) → Int → Bool → Bool → (List Int) → Option α) {α : Type} (ls : List Lf) (k : TV → List (List Seg) → List (List Seg) → Option α) :
    g62K (g62b G_g103 G_g104 G_g26 G_g78 G_g79 G_g74 L_g62l0) ls k = evFun tab (g62hd G_g103 G_g104 G_g26 G_g78 G_g79 G_g74 L_g62l0) Go.Proofs.Try.f62 (fillT g62tp ls).1 (fillB g62bp (fillT g62tp ls).2).1 k := by kernel_rfl
theorem g62Calls (m : Nat) : (g62h m).CallsOk Go.Proofs.Try.prog := (cok_cons (g103Ok m) (cok_cons (g104Ok m) (cok_cons (g26Ok m) (cok_cons (g78Ok m) (cok_cons (g79Ok m) (cok_cons (g74Ok m) cok_nil))))))
theorem g62l0Ok (m : Nat) (α : Type) (st : St) (k : Ex → St → Option α) (r : α) (h : (g62h m).loop 0 st k = some r) :
    ∃ e st', k e st' = some r ∧ CodeS Go.Proofs.Try.prog (.block 0 (.loop (bodyAt Go.Proofs.Try.f62 0))) st e st' :=
  loop_ok (tab := tab) (h := g62h m) (F := fun n ls k => g62l0K (fun z1493 z1494 c1496 a1497 k1517 v1495 c1498 c1499 a1500 => g62l0 (g26 m) (g78 m) (g79 m) z1493 z1494 c1496 a1497 k1517 n v1495 c1498 c1499 a1500) ls k) tabOk (g62Calls m) mixed (loopsOk_of _ (fun p hp => by rw [show loopsOf (bodyAt Go.Proofs.Try.f62 0) = [] by kernel_rfl] at hp; cases hp))
    (fun _ _ => rfl) (fun n ls k => g62l0Step (g103 m) (g104 m) (g26 m) (g78 m) (g79 m) (g74 m) (g62l0M m) (fun z1493 z1494 c1496 a1497 k1517 => g62l0 (g26 m) (g78 m) (g79 m) z1493 z1494 c1496 a1497 k1517 n) ls k) (n := m) h
theorem g62Fn (m : Nat) : FnOk Go.Proofs.Try.prog 62 g62tp g62bp (fun {α} => g62K (g62 (α := α) m)) :=
  fn_ok (tab := tab) (h := g62h m) (fn := Go.Proofs.Try.f62) (F := fun {α} => g62K (g62 (α := α) m)) tabOk (g62Calls m) mixed (by kernel_rfl) (by kernel_rfl) (fun c hc => by
    rw [bodyOf_some hc]
    exact loopsOk_of _ (fun p hp => by
    rw [show loopsOf (bodyOf Go.Proofs.Try.f62) = [(0, bodyAt Go.Proofs.Try.f62 0)] by kernel_rfl] at hp
    simp only [List.mem_cons, List.not_mem_nil, or_false] at hp
    rcases hp with rfl
    exact g62l0Ok m))
    (fun α ls k => g62Main (g103 m) (g104 m) (g26 m) (g78 m) (g79 m) (g74 m) (g62l0M m) ls k)
theorem g62Ok (m : Nat) : RowOk Go.Proofs.Try.prog 62 (fun {α} => rowK g62tp g62bp (g62K (g62 (α := α) m))) := row_of (g62Fn m)

/-! ### g18: laws.FnExactReadWide -/
def g18b {α : Type} (G_g61 : {α : Type} → ByteArray → (Bool → (List Int) → Int → Option α) → Option α) (G_g62 : {α : Type} → ByteArray → (Bool → (List Int) → Int → Option α) → Option α) (G_g27 : {α : Type} → Bool → (List Int) → Bool → (List Int) → (Bool → Option α) → Option α)  (z1356 : ByteArray) (k1534 : Bool → Option α) : Option α :=
  cond (decide (((z1356.size : Nat) : Int) > (1048576 : Int)))
   (
    k1534 true)
   (
    G_g61 z1356
      (fun b1453 l1454 x1455 =>
        G_g62 z1356
          (fun b1528 l1529 x1530 =>
            G_g27 b1528 l1529 b1453 l1454
              (fun b1531 =>
                cond (!b1531)
                 (
                  k1534 false)
                 (
                  cond (x1530 != x1455)
                   (
                    k1534 false)
                   (
                    k1534 true))))))
def g18 {α : Type} (m : Nat) : ByteArray → (Bool → Option α) → Option α :=
  g18b (g61 m) (g62 m) (g27 m)
def g18tp : List TP := [(.vl (.sv .str))]
def g18bp : List BP := []
def g18K {α : Type} (G : ByteArray → (Bool → Option α) → Option α) (ls : List Lf) (k : TV → List (List Seg) → List (List Seg) → Option α) : Option α :=
  G (lf ls 0).str
    (fun y0 => k (.vl (.sv (.bool y0))) [] [])
def g18hd (G_g61 : {α : Type} → ByteArray → (Bool → (List Int) → Int → Option α) → Option α) (G_g62 : {α : Type} → ByteArray → (Bool → (List Int) → Int → Option α) → Option α) (G_g27 : {α : Type} → Bool → (List Int) → Bool → (List Int) → (Bool → Option α) → Option α)  : Hd where
  call := fun f args Bs k => cond (Nat.beq f 61) (rowK g61tp g61bp (g61K G_g61) args Bs k) (cond (Nat.beq f 62) (rowK g62tp g62bp (g62K G_g62) args Bs k) (cond (Nat.beq f 27) (rowK g27tp g27bp (g27K G_g27) args Bs k) (none)))
  loop := fun id st k => none
  ro := fun f => []
def g18h (m : Nat) : Hd := g18hd (g61 m) (g62 m) (g27 m)
theorem g18Main (G_g61 : {α : Type} → ByteArray → (Bool → (List Int) → Int → Option α) → Option α) (G_g62 : {α : Type} → ByteArray → (Bool → (List Int) → Int → Option α) → Option α) (G_g27 : {α : Type} → Bool → (List Int) → Bool → (List Int) → (Bool → Option α) → Option α)  {α : Type} (ls : List Lf) (k : TV → List (List Seg) → List (List Seg) → Option α) :
    g18K (g18b G_g61 G_g62 G_g27) ls k = evFun tab (g18hd G_g61 G_g62 G_g27) Go.Proofs.Try.f18 (fillT g18tp ls).1 (fillB g18bp (fillT g18tp ls).2).1 k := by kernel_rfl
theorem g18Calls (m : Nat) : (g18h m).CallsOk Go.Proofs.Try.prog := (cok_cons (g61Ok m) (cok_cons (g62Ok m) (cok_cons (g27Ok m) cok_nil)))
theorem g18Fn (m : Nat) : FnOk Go.Proofs.Try.prog 18 g18tp g18bp (fun {α} => g18K (g18 (α := α) m)) :=
  fn_ok (tab := tab) (h := g18h m) (fn := Go.Proofs.Try.f18) (F := fun {α} => g18K (g18 (α := α) m)) tabOk (g18Calls m) mixed (by kernel_rfl) (by kernel_rfl) (fun c hc => by
    rw [bodyOf_some hc]
    exact loopsOk_of _ (fun p hp => by rw [show loopsOf (bodyOf Go.Proofs.Try.f18) = [] by kernel_rfl] at hp; cases hp))
    (fun α ls k => g18Main (g61 m) (g62 m) (g27 m) ls k)
theorem g18Ok (m : Nat) : RowOk Go.Proofs.Try.prog 18 (fun {α} => rowK g18tp g18bp (g18K (g18 (α := α) m))) := row_of (g18Fn m)

/-! ### g102: spec.l01DivMag -/
def g102l2b {α : Type}   (v1569 : Int) (v1570 : Int) (a1572 : List Int) (a1573 : List Int) (a1574 : List Int) (a1575 : List Int) (a1576 : List Int) (k1587 : (List Int) → Option α) (r1588 : Int → (List Int) → Option α) (v1571 : Int) (a1577 : List Int) : Option α :=
  cond (decide (v1571 > (0 : Int)))
   (
    if 0 ≤ v1571 ∧ v1571 < (6 : Nat) then
      if v1571.toNat < 6 then
        let x1581 : Int := IntKind.wrap .i64 (v1571 - (1 : Int))
        if 0 ≤ x1581 ∧ x1581 < (6 : Nat) then
          if x1581.toNat < 6 then
            if 0 ≤ v1571 ∧ v1571 < (6 : Nat) then
              if v1571.toNat < 6 then
                r1588 (IntKind.wrap .i64 (v1571 - (1 : Int))) (List.set a1577 (v1571.toNat) (ibits .or .u32 (IntKind.wrap .u32 ((List.getD a1577 v1571.toNat 0) * 2 ^ 1)) (Int.fdiv (List.getD a1577 x1581.toNat 0) (2 ^ 31))))
              else
                none
            else
              none
          else
            none
        else
          none
      else
        none
    else
      none)
   (
    k1587 a1577)
def g102l2 {α : Type}   (v1569 : Int) (v1570 : Int) (a1572 : List Int) (a1573 : List Int) (a1574 : List Int) (a1575 : List Int) (a1576 : List Int) (k1587 : (List Int) → Option α) : Nat → Int → (List Int) → Option α
  | 0 => fun _ _ => none
  | m + 1 => fun v1571 a1577 => g102l2b v1569 v1570 a1572 a1573 a1574 a1575 a1576 k1587 (g102l2 v1569 v1570 a1572 a1573 a1574 a1575 a1576 k1587 m) v1571 a1577
def g102l2M {α : Type} (m : Nat) : Int → Int → (List Int) → (List Int) → (List Int) → (List Int) → (List Int) → ((List Int) → Option α) → Int → (List Int) → Option α :=
  fun v1569 v1570 a1572 a1573 a1574 a1575 a1576 k1587 v1571 a1577 => g102l2 v1569 v1570 a1572 a1573 a1574 a1575 a1576 k1587 m v1571 a1577
def g102l2D : LoopD := { n := 76, sl := [0, 1, 4, 5, 6, 7, 8, 9, 10], bl := [0, 1, 1004, 1005, 1006, 1007], tp := [(.vl (.sv (.ptr 0 0))), (.vl (.sv (.ptr 1 0))), (.vl (.sv (.ptr 1004 0))), (.vl (.sv (.ptr 1005 0))), (.vl (.sv (.ptr 1006 0))), (.vl (.sv (.ptr 1007 0))), (.vl (.sv (.int .i64))), (.vl (.sv (.int .u32))), (.vl (.sv (.int .i64)))], bp := [(false, [(.seq (.int .u32) 6)]), (false, [(.seq (.int .u32) 6)]), (true, [(.seq (.int .u32) 6)]), (true, [(.seq (.int .u32) 6)]), (true, [(.seq (.int .u32) 6)]), (true, [(.seq (.int .u32) 6)])], xs := [(4, [0, 1, 4, 5, 6, 7, 8, 9], [0, 1, 1004, 1005, 1006, 1007])] }
def g102l2K {α : Type} (L : Int → Int → (List Int) → (List Int) → (List Int) → (List Int) → (List Int) → ((List Int) → Option α) → Int → (List Int) → Option α) (ls : List Lf) (k : Ex → St → Option α) : Option α :=
  L (lf ls 0).int (lf ls 1).int ((lf ls 3).lst (.int .u32)) ((lf ls 4).lst (.int .u32)) ((lf ls 5).lst (.int .u32)) ((lf ls 6).lst (.int .u32)) ((lf ls 7).lst (.int .u32))
    (fun y7 => k .normal (mkSt 76 [0, 1, 4, 5, 6, 7, 8, 9] [(.vl (.sv (.ptr 0 0))), (.vl (.sv (.ptr 1 0))), (.vl (.sv (.ptr 1004 0))), (.vl (.sv (.ptr 1005 0))), (.vl (.sv (.ptr 1006 0))), (.vl (.sv (.ptr 1007 0))), (.vl (.sv (.int .i64 (lf ls 0).int))), (.vl (.sv (.int .u32 (lf ls 1).int)))] [0, 1, 1004, 1005, 1006, 1007] [(false, [(.seq (.int .u32) 6 ((lf ls 3).lst (.int .u32)))]), (false, [(.seq (.int .u32) 6 ((lf ls 4).lst (.int .u32)))]), (true, [(.seq (.int .u32) 6 ((lf ls 5).lst (.int .u32)))]), (true, [(.seq (.int .u32) 6 ((lf ls 6).lst (.int .u32)))]), (true, [(.seq (.int .u32) 6 ((lf ls 7).lst (.int .u32)))]), (true, [(.seq (.int .u32) 6 y7)])]))
    (lf ls 2).int ((lf ls 8).lst (.int .u32))
def g102l0b {α : Type} (G_g113 : {α : Type} → (List Int) → (List Int) → ((List Int) → Option α) → Option α) (G_g115 : {α : Type} → (List Int) → (List Int) → (Int → Option α) → Option α) (L_g102l2 : {α : Type} → Int → Int → (List Int) → (List Int) → (List Int) → (List Int) → (List Int) → ((List Int) → Option α) → Int → (List Int) → Option α) (a1560 : List Int) (a1561 : List Int) (a1562 : List Int) (a1563 : List Int) (k1622 : (List Int) → (List Int) → Option α) (r1623 : Int → (List Int) → (List Int) → Option α) (v1559 : Int) (a1564 : List Int) (a1565 : List Int) : Option α :=
  cond (decide (v1559 ≥ (0 : Int)))
   (
    let x1568 : Int := Int.fdiv (List.getD a1565 5 0) (2 ^ 31)
    L_g102l2 v1559 x1568 a1560 a1561 a1562 a1563 a1564
      (fun l1589 =>
        let x1592 : Int := IntKind.wrap .i64 (Int.tdiv v1559 (32 : Int))
        if 0 ≤ x1592 ∧ x1592 < (6 : Nat) then
          if x1592.toNat < 6 then
            let x1595 : Int := IntKind.wrap .u64 (Int.tmod v1559 (32 : Int))
            if x1595 < 0 then
              none
            else
              let l1599 : List Int := List.set l1589 0 (ibits .or .u32 (IntKind.wrap .u32 ((List.getD l1589 0 0) * 2 ^ 1)) (ibits .and .u32 (Int.fdiv (List.getD a1560 x1592.toNat 0) (2 ^ (min x1595.toNat 32))) (1 : Int)))
              cond (x1568 == (1 : Int))
               (
                G_g113 l1599 a1561
                  (fun l1601 =>
                    let x1602 : Int := IntKind.wrap .i64 (Int.tdiv v1559 (32 : Int))
                    if 0 ≤ x1602 ∧ x1602 < (6 : Nat) then
                      if x1602.toNat < 6 then
                        let x1605 : Int := IntKind.wrap .u64 (Int.tmod v1559 (32 : Int))
                        if x1605 < 0 then
                          none
                        else
                          if 0 ≤ x1602 ∧ x1602 < (6 : Nat) then
                            if x1602.toNat < 6 then
                              r1623 (IntKind.wrap .i64 (v1559 - (1 : Int))) (List.set a1564 (x1602.toNat) (ibits .or .u32 (List.getD a1564 x1602.toNat 0) (IntKind.wrap .u32 ((1 : Int) * 2 ^ (min x1605.toNat 32))))) l1601
                            else
                              none
                          else
                            none
                      else
                        none
                    else
                      none))
               (
                G_g115 l1599 a1561
                  (fun x1610 =>
                    cond (decide (x1610 ≥ (0 : Int)))
                     (
                      G_g113 l1599 a1561
                        (fun l1612 =>
                          let x1613 : Int := IntKind.wrap .i64 (Int.tdiv v1559 (32 : Int))
                          if 0 ≤ x1613 ∧ x1613 < (6 : Nat) then
                            if x1613.toNat < 6 then
                              let x1616 : Int := IntKind.wrap .u64 (Int.tmod v1559 (32 : Int))
                              if x1616 < 0 then
                                none
                              else
                                if 0 ≤ x1613 ∧ x1613 < (6 : Nat) then
                                  if x1613.toNat < 6 then
                                    r1623 (IntKind.wrap .i64 (v1559 - (1 : Int))) (List.set a1564 (x1613.toNat) (ibits .or .u32 (List.getD a1564 x1613.toNat 0) (IntKind.wrap .u32 ((1 : Int) * 2 ^ (min x1616.toNat 32))))) l1612
                                  else
                                    none
                                else
                                  none
                            else
                              none
                          else
                            none))
                     (
                      r1623 (IntKind.wrap .i64 (v1559 - (1 : Int))) a1564 l1599)))
          else
            none
        else
          none)
      (5 : Int) a1565)
   (
    k1622 a1564 a1565)
def g102l0 {α : Type} (G_g113 : {α : Type} → (List Int) → (List Int) → ((List Int) → Option α) → Option α) (G_g115 : {α : Type} → (List Int) → (List Int) → (Int → Option α) → Option α) (L_g102l2 : {α : Type} → Int → Int → (List Int) → (List Int) → (List Int) → (List Int) → (List Int) → ((List Int) → Option α) → Int → (List Int) → Option α) (a1560 : List Int) (a1561 : List Int) (a1562 : List Int) (a1563 : List Int) (k1622 : (List Int) → (List Int) → Option α) : Nat → Int → (List Int) → (List Int) → Option α
  | 0 => fun _ _ _ => none
  | m + 1 => fun v1559 a1564 a1565 => g102l0b G_g113 G_g115 L_g102l2 a1560 a1561 a1562 a1563 k1622 (g102l0 G_g113 G_g115 L_g102l2 a1560 a1561 a1562 a1563 k1622 m) v1559 a1564 a1565
def g102l0M {α : Type} (m : Nat) : (List Int) → (List Int) → (List Int) → (List Int) → ((List Int) → (List Int) → Option α) → Int → (List Int) → (List Int) → Option α :=
  fun a1560 a1561 a1562 a1563 k1622 v1559 a1564 a1565 => g102l0 (g113 m) (g115 m) (g102l2M m) a1560 a1561 a1562 a1563 k1622 m v1559 a1564 a1565
def g102l0D : LoopD := { n := 76, sl := [0, 1, 4, 5, 6, 7, 8], bl := [0, 1, 1004, 1005, 1006, 1007], tp := [(.vl (.sv (.ptr 0 0))), (.vl (.sv (.ptr 1 0))), (.vl (.sv (.ptr 1004 0))), (.vl (.sv (.ptr 1005 0))), (.vl (.sv (.ptr 1006 0))), (.vl (.sv (.ptr 1007 0))), (.vl (.sv (.int .i64)))], bp := [(false, [(.seq (.int .u32) 6)]), (false, [(.seq (.int .u32) 6)]), (true, [(.seq (.int .u32) 6)]), (true, [(.seq (.int .u32) 6)]), (true, [(.seq (.int .u32) 6)]), (true, [(.seq (.int .u32) 6)])], xs := [(2, [4, 5, 6, 7], [0, 1, 1004, 1005, 1006, 1007])] }
def g102l0K {α : Type} (L : (List Int) → (List Int) → (List Int) → (List Int) → ((List Int) → (List Int) → Option α) → Int → (List Int) → (List Int) → Option α) (ls : List Lf) (k : Ex → St → Option α) : Option α :=
  L ((lf ls 1).lst (.int .u32)) ((lf ls 2).lst (.int .u32)) ((lf ls 3).lst (.int .u32)) ((lf ls 4).lst (.int .u32))
    (fun y4 y5 => k .normal (mkSt 76 [4, 5, 6, 7] [(.vl (.sv (.ptr 1004 0))), (.vl (.sv (.ptr 1005 0))), (.vl (.sv (.ptr 1006 0))), (.vl (.sv (.ptr 1007 0)))] [0, 1, 1004, 1005, 1006, 1007] [(false, [(.seq (.int .u32) 6 ((lf ls 1).lst (.int .u32)))]), (false, [(.seq (.int .u32) 6 ((lf ls 2).lst (.int .u32)))]), (true, [(.seq (.int .u32) 6 ((lf ls 3).lst (.int .u32)))]), (true, [(.seq (.int .u32) 6 ((lf ls 4).lst (.int .u32)))]), (true, [(.seq (.int .u32) 6 y4)]), (true, [(.seq (.int .u32) 6 y5)])]))
    (lf ls 0).int ((lf ls 5).lst (.int .u32)) ((lf ls 6).lst (.int .u32))
def g102b {α : Type} (G_g93 : {α : Type} → (List Int) → (Int → Option α) → Option α) (G_g113 : {α : Type} → (List Int) → (List Int) → ((List Int) → Option α) → Option α) (G_g115 : {α : Type} → (List Int) → (List Int) → (Int → Option α) → Option α) (L_g102l2 : {α : Type} → Int → Int → (List Int) → (List Int) → (List Int) → (List Int) → (List Int) → ((List Int) → Option α) → Int → (List Int) → Option α) (L_g102l0 : {α : Type} → (List Int) → (List Int) → (List Int) → (List Int) → ((List Int) → (List Int) → Option α) → Int → (List Int) → (List Int) → Option α) (u1555 : List Int) (u1556 : List Int) (k1626 : (List Int) → (List Int) → Option α) : Option α :=
  G_g93 u1555
    (fun x1557 =>
      L_g102l0 u1555 u1556 [0, 0, 0, 0, 0, 0] [0, 0, 0, 0, 0, 0]
        (fun l1624 l1625 =>
          k1626 l1624 l1625)
        (IntKind.wrap .i64 (x1557 - (1 : Int))) [0, 0, 0, 0, 0, 0] [0, 0, 0, 0, 0, 0])
def g102 {α : Type} (m : Nat) : (List Int) → (List Int) → ((List Int) → (List Int) → Option α) → Option α :=
  g102b (g93 m) (g113 m) (g115 m) (g102l2M m) (g102l0M m)
def g102tp : List TP := [(.vl (.sv (.ptr 0 0))), (.vl (.sv (.ptr 1 0)))]
def g102bp : List BP := [(false, [(.seq (.int .u32) 6)]), (false, [(.seq (.int .u32) 6)])]
def g102K {α : Type} (G : (List Int) → (List Int) → ((List Int) → (List Int) → Option α) → Option α) (ls : List Lf) (k : TV → List (List Seg) → List (List Seg) → Option α) : Option α :=
  G ((lf ls 0).lst (.int .u32)) ((lf ls 1).lst (.int .u32))
    (fun y0 y1 => k (.tup [(.agg [(.seq (.int .u32) 6 y0)]), (.agg [(.seq (.int .u32) 6 y1)])]) [[(.seq (.int .u32) 6 ((lf ls 0).lst (.int .u32)))], [(.seq (.int .u32) 6 ((lf ls 1).lst (.int .u32)))]] [])
def g102hd (G_g93 : {α : Type} → (List Int) → (Int → Option α) → Option α) (G_g113 : {α : Type} → (List Int) → (List Int) → ((List Int) → Option α) → Option α) (G_g115 : {α : Type} → (List Int) → (List Int) → (Int → Option α) → Option α) (L_g102l2 : {α : Type} → Int → Int → (List Int) → (List Int) → (List Int) → (List Int) → (List Int) → ((List Int) → Option α) → Int → (List Int) → Option α) (L_g102l0 : {α : Type} → (List Int) → (List Int) → (List Int) → (List Int) → ((List Int) → (List Int) → Option α) → Int → (List Int) → (List Int) → Option α) : Hd where
  call := fun f args Bs k => cond (Nat.beq f 93) (rowK g93tp g93bp (g93K G_g93) args Bs k) (cond (Nat.beq f 113) (rowK g113tp g113bp (g113K G_g113) args Bs k) (cond (Nat.beq f 115) (rowK g115tp g115bp (g115K G_g115) args Bs k) (none)))
  loop := fun id st k => cond (Nat.beq id 2) (loopH g102l2D (g102l2K L_g102l2) st k) (cond (Nat.beq id 0) (loopH g102l0D (g102l0K L_g102l0) st k) (none))
  ro := fun f => cond (Nat.beq f 93) [0] (cond (Nat.beq f 113) [0, 1] (cond (Nat.beq f 115) [0, 1] ([])))
def g102h (m : Nat) : Hd := g102hd (g93 m) (g113 m) (g115 m) (g102l2M m) (g102l0M m)
theorem g102l2Step (G_g93 : {α : Type} → (List Int) → (Int → Option α) → Option α) (G_g113 : {α : Type} → (List Int) → (List Int) → ((List Int) → Option α) → Option α) (G_g115 : {α : Type} → (List Int) → (List Int) → (Int → Option α) → Option α) (L_g102l2 : {α : Type} → Int → Int → (List Int) → (List Int) → (List Int) → (List Int) → (List Int) → ((List Int) → Option α) → Int → (List Int) → Option α) (L_g102l0 : {α : Type} → (List Int) → (List Int) → (List Int) → (List Int) → ((List Int) → (List Int) → Option α) → Int → (List Int) → (List Int) → Option α) {α : Type} (L : Int → Int → (List Int) → (List Int) → (List Int) → (List Int) → (List Int) → ((List Int) → Option α) → Int → (List Int) → Option α) (ls : List Lf) (k : Ex → St → Option α) :
    g102l2K (fun v1569 v1570 a1572 a1573 a1574 a1575 a1576 k1587 v1571 a1577 => g102l2b v1569 v1570 a1572 a1573 a1574 a1575 a1576 k1587 (L v1569 v1570 a1572 a1573 a1574 a1575 a1576 k1587) v1571 a1577) ls k = ev tab (g102hd G_g93 G_g113 G_g115 L_g102l2 L_g102l0) (bodyAt Go.Proofs.Try.f102 2) (atHead g102l2D ls) (loopK g102l2D 2 (loopH g102l2D (g102l2K L)) k) := by kernel_rfl
theorem g102l0Step (G_g93 : {α : Type} → (List Int) → (Int → Option α) → Option α) (G_g113 : {α : Type} → (List Int) → (List Int) → ((List Int) → Option α) → Option α) (G_g115 : {α : Type} → (List Int) → (List Int) → (Int → Option α) → Option α) (L_g102l2 : {α : Type} → Int → Int → (List Int) → (List Int) → (List Int) → (List Int) → (List Int) → ((List Int) → Option α) → Int → (List Int) → Option α) (L_g102l0 : {α : Type} → (List Int) → (List Int) → (List Int) → (List Int) → ((List Int) → (List Int) → Option α) → Int → (List Int) → (List Int) → Option α) {α : Type} (L : (List Int) → (List Int) → (List Int) → (List Int) → ((List Int) → (List Int) → Option α) → Int → (List Int) → (List Int) → Option α) (ls : List Lf) (k : Ex → St → Option α) :
    g102l0K (fun a1560 a1561 a1562 a1563 k1622 v1559 a1564 a1565 => g102l0b G_g113 G_g115 L_g102l2 a1560 a1561 a1562 a1563 k1622 (L a1560 a1561 a1562 a1563 k1622) v1559 a1564 a1565) ls k = ev tab (g102hd G_g93 G_g113 G_g115 L_g102l2 L_g102l0) (bodyAt Go.Proofs.Try.f102 0) (atHead g102l0D ls) (loopK g102l0D 0 (loopH g102l0D (g102l0K L)) k) := by kernel_rfl
theorem g102Main (G_g93 : {α : Type} → (List Int) → (Int → Option α) → Option α) (G_g113 : {α : Type} → (List Int) → (List Int) → ((List Int) → Option α) → Option α) (G_g115 : {α : Type} → (List Int) → (List Int) → (Int → Option α) → Option α) (L_g102l2 : {α : Type} → Int → Int → (List Int) → (List Int) → (List Int) → (List Int) → (List Int) → ((List Int) → Option α) → Int → (List Int) → Option α) (L_g102l0 : {α : Type} → (List Int) → (List Int) → (List Int) → (List Int) → ((List Int) → (List Int) → Option α) → Int → (List Int) → (List Int) → Option α) {α : Type} (ls : List Lf) (k : TV → List (List Seg) → List (List Seg) → Option α) :
    g102K (g102b G_g93 G_g113 G_g115 L_g102l2 L_g102l0) ls k = evFun tab (g102hd G_g93 G_g113 G_g115 L_g102l2 L_g102l0) Go.Proofs.Try.f102 (fillT g102tp ls).1 (fillB g102bp (fillT g102tp ls).2).1 k := by kernel_rfl
theorem g102Calls (m : Nat) : (g102h m).CallsOk Go.Proofs.Try.prog := (cok_cons (g93Ok m) (cok_cons (g113Ok m) (cok_cons (g115Ok m) cok_nil)))
theorem g102l2Ok (m : Nat) (α : Type) (st : St) (k : Ex → St → Option α) (r : α) (h : (g102h m).loop 2 st k = some r) :
    ∃ e st', k e st' = some r ∧ CodeS Go.Proofs.Try.prog (.block 2 (.loop (bodyAt Go.Proofs.Try.f102 2))) st e st' :=
  loop_ok (tab := tab) (h := g102h m) (F := fun n ls k => g102l2K (fun v1569 v1570 a1572 a1573 a1574 a1575 a1576 k1587 v1571 a1577 => g102l2 v1569 v1570 a1572 a1573 a1574 a1575 a1576 k1587 n v1571 a1577) ls k) tabOk (g102Calls m) mixed (loopsOk_of _ (fun p hp => by rw [show loopsOf (bodyAt Go.Proofs.Try.f102 2) = [] by kernel_rfl] at hp; cases hp))
    (fun _ _ => rfl) (fun n ls k => g102l2Step (g93 m) (g113 m) (g115 m) (g102l2M m) (g102l0M m) (fun v1569 v1570 a1572 a1573 a1574 a1575 a1576 k1587 => g102l2 v1569 v1570 a1572 a1573 a1574 a1575 a1576 k1587 n) ls k) (n := m) h
theorem g102l0Ok (m : Nat) (α : Type) (st : St) (k : Ex → St → Option α) (r : α) (h : (g102h m).loop 0 st k = some r) :
    ∃ e st', k e st' = some r ∧ CodeS Go.Proofs.Try.prog (.block 0 (.loop (bodyAt Go.Proofs.Try.f102 0))) st e st' :=
  loop_ok (tab := tab) (h := g102h m) (F := fun n ls k => g102l0K (fun a1560 a1561 a1562 a1563 k1622 v1559 a1564 a1565 => g102l0 (g113 m) (g115 m) (g102l2M m) a1560 a1561 a1562 a1563 k1622 n v1559 a1564 a1565) ls k) tabOk (g102Calls m) mixed (loopsOk_of _ (fun p hp => by
    rw [show loopsOf (bodyAt Go.Proofs.Try.f102 0) = [(2, bodyAt Go.Proofs.Try.f102 2)] by kernel_rfl] at hp
    simp only [List.mem_cons, List.not_mem_nil, or_false] at hp
    rcases hp with rfl
    exact g102l2Ok m))
    (fun _ _ => rfl) (fun n ls k => g102l0Step (g93 m) (g113 m) (g115 m) (g102l2M m) (g102l0M m) (fun a1560 a1561 a1562 a1563 k1622 => g102l0 (g113 m) (g115 m) (g102l2M m) a1560 a1561 a1562 a1563 k1622 n) ls k) (n := m) h
theorem g102Fn (m : Nat) : FnOk Go.Proofs.Try.prog 102 g102tp g102bp (fun {α} => g102K (g102 (α := α) m)) :=
  fn_ok (tab := tab) (h := g102h m) (fn := Go.Proofs.Try.f102) (F := fun {α} => g102K (g102 (α := α) m)) tabOk (g102Calls m) mixed (by kernel_rfl) (by kernel_rfl) (fun c hc => by
    rw [bodyOf_some hc]
    exact loopsOk_of _ (fun p hp => by
    rw [show loopsOf (bodyOf Go.Proofs.Try.f102) = [(0, bodyAt Go.Proofs.Try.f102 0)] by kernel_rfl] at hp
    simp only [List.mem_cons, List.not_mem_nil, or_false] at hp
    rcases hp with rfl
    exact g102l0Ok m))
    (fun α ls k => g102Main (g93 m) (g113 m) (g115 m) (g102l2M m) (g102l0M m) ls k)
theorem g102Ok (m : Nat) : RowOk Go.Proofs.Try.prog 102 (fun {α} => rowK g102tp g102bp (g102K (g102 (α := α) m))) := row_of (g102Fn m)

/-! ### g60: spec.CommonWide -/
def g60l0b {α : Type} (G_g101 : {α : Type} → (List Int) → (Bool → Option α) → Option α) (G_g102 : {α : Type} → (List Int) → (List Int) → ((List Int) → (List Int) → Option α) → Option α)  (c1549 : Bool) (a1550 : List Int) (k1629 : (List Int) → Option α) (r1630 : (List Int) → (List Int) → Option α) (a1551 : List Int) (a1552 : List Int) : Option α :=
  G_g101 a1552
    (fun b1553 =>
      cond (!b1553)
       (
        G_g102 a1551 a1552
          (fun l1627 l1628 =>
            r1630 a1552 l1628))
       (
        k1629 a1551))
def g60l0 {α : Type} (G_g101 : {α : Type} → (List Int) → (Bool → Option α) → Option α) (G_g102 : {α : Type} → (List Int) → (List Int) → ((List Int) → (List Int) → Option α) → Option α)  (c1549 : Bool) (a1550 : List Int) (k1629 : (List Int) → Option α) : Nat → (List Int) → (List Int) → Option α
  | 0 => fun _ _ => none
  | m + 1 => fun a1551 a1552 => g60l0b G_g101 G_g102 c1549 a1550 k1629 (g60l0 G_g101 G_g102 c1549 a1550 k1629 m) a1551 a1552
def g60l0M {α : Type} (m : Nat) : Bool → (List Int) → ((List Int) → Option α) → (List Int) → (List Int) → Option α :=
  fun c1549 a1550 k1629 a1551 a1552 => g60l0 (g101 m) (g102 m) c1549 a1550 k1629 m a1551 a1552
def g60l0D : LoopD := { n := 31, sl := [4, 6, 7], bl := [1004, 1006, 1007], tp := [(.vl (.sv (.ptr 1004 0))), (.vl (.sv (.ptr 1006 0))), (.vl (.sv (.ptr 1007 0)))], bp := [(true, [(.one .bool), (.seq (.int .u32) 6)]), (true, [(.seq (.int .u32) 6)]), (true, [(.seq (.int .u32) 6)])], xs := [(2, [4, 6], [1004, 1006])] }
def g60l0K {α : Type} (L : Bool → (List Int) → ((List Int) → Option α) → (List Int) → (List Int) → Option α) (ls : List Lf) (k : Ex → St → Option α) : Option α :=
  L (lf ls 0).bool ((lf ls 1).lst (.int .u32))
    (fun y2 => k .normal (mkSt 31 [4, 6] [(.vl (.sv (.ptr 1004 0))), (.vl (.sv (.ptr 1006 0)))] [1004, 1006] [(true, [(.one (.bool (lf ls 0).bool)), (.seq (.int .u32) 6 ((lf ls 1).lst (.int .u32)))]), (true, [(.seq (.int .u32) 6 y2)])]))
    ((lf ls 2).lst (.int .u32)) ((lf ls 3).lst (.int .u32))
def g60b {α : Type} (G_g64 : {α : Type} → Bool → (List Int) → (Bool → Option α) → Option α) (G_g101 : {α : Type} → (List Int) → (Bool → Option α) → Option α) (G_g102 : {α : Type} → (List Int) → (List Int) → ((List Int) → (List Int) → Option α) → Option α) (G_g71 : {α : Type} → Bool → (List Int) → (Bool → Option α) → Option α) (L_g60l0 : {α : Type} → Bool → (List Int) → ((List Int) → Option α) → (List Int) → (List Int) → Option α) (q1541 : Bool) (u1542 : List Int) (q1543 : Bool) (u1544 : List Int) (k1633 : Bool → (List Int) → Int → Option α) : Option α :=
  G_g64 q1541 u1542
    (fun b1545 =>
      cond (!b1545)
       (
        k1633 false [0, 0, 0, 0, 0, 0] (1 : Int))
       (
        G_g64 q1543 u1544
          (fun b1547 =>
            cond (!b1547)
             (
              k1633 false [0, 0, 0, 0, 0, 0] (1 : Int))
             (
              L_g60l0 false [0, 0, 0, 0, 0, 0]
                (fun l1631 =>
                  G_g71 false l1631
                    (fun b1632 =>
                      k1633 b1632 l1631 (0 : Int)))
                u1542 u1544))))
def g60 {α : Type} (m : Nat) : Bool → (List Int) → Bool → (List Int) → (Bool → (List Int) → Int → Option α) → Option α :=
  g60b (g64 m) (g101 m) (g102 m) (g71 m) (g60l0M m)
def g60tp : List TP := [(.vl (.agg [(.one .bool), (.seq (.int .u32) 6)])), (.vl (.agg [(.one .bool), (.seq (.int .u32) 6)]))]
def g60bp : List BP := []
def g60K {α : Type} (G : Bool → (List Int) → Bool → (List Int) → (Bool → (List Int) → Int → Option α) → Option α) (ls : List Lf) (k : TV → List (List Seg) → List (List Seg) → Option α) : Option α :=
  G (lf ls 0).bool ((lf ls 1).lst (.int .u32)) (lf ls 2).bool ((lf ls 3).lst (.int .u32))
    (fun y0 y1 y2 => k (.tup [(.agg [(.one (.bool y0)), (.seq (.int .u32) 6 y1)]), (.sv (.int .i64 y2))]) [] [])
def g60hd (G_g64 : {α : Type} → Bool → (List Int) → (Bool → Option α) → Option α) (G_g101 : {α : Type} → (List Int) → (Bool → Option α) → Option α) (G_g102 : {α : Type} → (List Int) → (List Int) → ((List Int) → (List Int) → Option α) → Option α) (G_g71 : {α : Type} → Bool → (List Int) → (Bool → Option α) → Option α) (L_g60l0 : {α : Type} → Bool → (List Int) → ((List Int) → Option α) → (List Int) → (List Int) → Option α) : Hd where
  call := fun f args Bs k => cond (Nat.beq f 64) (rowK g64tp g64bp (g64K G_g64) args Bs k) (cond (Nat.beq f 101) (rowK g101tp g101bp (g101K G_g101) args Bs k) (cond (Nat.beq f 102) (rowK g102tp g102bp (g102K G_g102) args Bs k) (cond (Nat.beq f 71) (rowK g71tp g71bp (g71K G_g71) args Bs k) (none))))
  loop := fun id st k => cond (Nat.beq id 0) (loopH g60l0D (g60l0K L_g60l0) st k) (none)
  ro := fun f => cond (Nat.beq f 64) [0] (cond (Nat.beq f 101) [0] (cond (Nat.beq f 102) [0, 1] ([])))
def g60h (m : Nat) : Hd := g60hd (g64 m) (g101 m) (g102 m) (g71 m) (g60l0M m)
theorem g60l0Step (G_g64 : {α : Type} → Bool → (List Int) → (Bool → Option α) → Option α) (G_g101 : {α : Type} → (List Int) → (Bool → Option α) → Option α) (G_g102 : {α : Type} → (List Int) → (List Int) → ((List Int) → (List Int) → Option α) → Option α) (G_g71 : {α : Type} → Bool → (List Int) → (Bool → Option α) → Option α) (L_g60l0 : {α : Type} → Bool → (List Int) → ((List Int) → Option α) → (List Int) → (List Int) → Option α) {α : Type} (L : Bool → (List Int) → ((List Int) → Option α) → (List Int) → (List Int) → Option α) (ls : List Lf) (k : Ex → St → Option α) :
    g60l0K (fun c1549 a1550 k1629 a1551 a1552 => g60l0b G_g101 G_g102 c1549 a1550 k1629 (L c1549 a1550 k1629) a1551 a1552) ls k = ev tab (g60hd G_g64 G_g101 G_g102 G_g71 L_g60l0) (bodyAt Go.Proofs.Try.f60 0) (atHead g60l0D ls) (loopK g60l0D 0 (loopH g60l0D (g60l0K L)) k) := by kernel_rfl
theorem g60Main (G_g64 : {α : Type} → Bool → (List Int) → (Bool → Option α) → Option α) (G_g101 : {α : Type} → (List Int) → (Bool → Option α) → Option α) (G_g102 : {α : Type} → (List Int) → (List Int) → ((List Int) → (List Int) → Option α) → Option α) (G_g71 : {α : Type} → Bool → (List Int) → (Bool → Option α) → Option α) (L_g60l0 : {α : Type} → Bool → (List Int) → ((List Int) → Option α) → (List Int) → (List Int) → Option α) {α : Type} (ls : List Lf) (k : TV → List (List Seg) → List (List Seg) → Option α) :
    g60K (g60b G_g64 G_g101 G_g102 G_g71 L_g60l0) ls k = evFun tab (g60hd G_g64 G_g101 G_g102 G_g71 L_g60l0) Go.Proofs.Try.f60 (fillT g60tp ls).1 (fillB g60bp (fillT g60tp ls).2).1 k := by kernel_rfl
theorem g60Calls (m : Nat) : (g60h m).CallsOk Go.Proofs.Try.prog := (cok_cons (g64Ok m) (cok_cons (g101Ok m) (cok_cons (g102Ok m) (cok_cons (g71Ok m) cok_nil))))
theorem g60l0Ok (m : Nat) (α : Type) (st : St) (k : Ex → St → Option α) (r : α) (h : (g60h m).loop 0 st k = some r) :
    ∃ e st', k e st' = some r ∧ CodeS Go.Proofs.Try.prog (.block 0 (.loop (bodyAt Go.Proofs.Try.f60 0))) st e st' :=
  loop_ok (tab := tab) (h := g60h m) (F := fun n ls k => g60l0K (fun c1549 a1550 k1629 a1551 a1552 => g60l0 (g101 m) (g102 m) c1549 a1550 k1629 n a1551 a1552) ls k) tabOk (g60Calls m) mixed (loopsOk_of _ (fun p hp => by rw [show loopsOf (bodyAt Go.Proofs.Try.f60 0) = [] by kernel_rfl] at hp; cases hp))
    (fun _ _ => rfl) (fun n ls k => g60l0Step (g64 m) (g101 m) (g102 m) (g71 m) (g60l0M m) (fun c1549 a1550 k1629 => g60l0 (g101 m) (g102 m) c1549 a1550 k1629 n) ls k) (n := m) h
theorem g60Fn (m : Nat) : FnOk Go.Proofs.Try.prog 60 g60tp g60bp (fun {α} => g60K (g60 (α := α) m)) :=
  fn_ok (tab := tab) (h := g60h m) (fn := Go.Proofs.Try.f60) (F := fun {α} => g60K (g60 (α := α) m)) tabOk (g60Calls m) mixed (by kernel_rfl) (by kernel_rfl) (fun c hc => by
    rw [bodyOf_some hc]
    exact loopsOk_of _ (fun p hp => by
    rw [show loopsOf (bodyOf Go.Proofs.Try.f60) = [(0, bodyAt Go.Proofs.Try.f60 0)] by kernel_rfl] at hp
    simp only [List.mem_cons, List.not_mem_nil, or_false] at hp
    rcases hp with rfl
    exact g60l0Ok m))
    (fun α ls k => g60Main (g64 m) (g101 m) (g102 m) (g71 m) (g60l0M m) ls k)
theorem g60Ok (m : Nat) : RowOk Go.Proofs.Try.prog 60 (fun {α} => rowK g60tp g60bp (g60K (g60 (α := α) m))) := row_of (g60Fn m)

/-! ### g124: (impl.size).bySmall -/
def g124l0b {α : Type}   (v1662 : Int) (a1666 : List Int) (k1679 : Int → (List Int) → Option α) (r1680 : Int → Int → (List Int) → Option α) (v1663 : Int) (v1664 : Int) (a1665 : List Int) : Option α :=
  cond (decide (v1664 ≥ (0 : Int)))
   (
    if 0 ≤ v1664 ∧ v1664 < (6 : Nat) then
      if v1664.toNat < 6 then
        let x1671 : Int := ibits .or .u64 (IntKind.wrap .u64 (v1663 * 2 ^ 32)) (IntKind.wrap .u64 (List.getD a1665 v1664.toNat 0))
        let x1672 : Int := IntKind.wrap .u64 v1662
        if x1672 = 0 then
          none
        else
          if 0 ≤ v1664 ∧ v1664 < (6 : Nat) then
            if v1664.toNat < 6 then
              let x1676 : Int := IntKind.wrap .u64 v1662
              if x1676 = 0 then
                none
              else
                r1680 (Int.tmod x1671 x1676) (IntKind.wrap .i64 (v1664 - (1 : Int))) (List.set a1665 (v1664.toNat) (IntKind.wrap .u32 (IntKind.wrap .u64 (Int.tdiv x1671 x1672))))
            else
              none
          else
            none
      else
        none
    else
      none)
   (
    k1679 v1663 a1665)
def g124l0 {α : Type}   (v1662 : Int) (a1666 : List Int) (k1679 : Int → (List Int) → Option α) : Nat → Int → Int → (List Int) → Option α
  | 0 => fun _ _ _ => none
  | m + 1 => fun v1663 v1664 a1665 => g124l0b v1662 a1666 k1679 (g124l0 v1662 a1666 k1679 m) v1663 v1664 a1665
def g124l0M {α : Type} (m : Nat) : Int → (List Int) → (Int → (List Int) → Option α) → Int → Int → (List Int) → Option α :=
  fun v1662 a1666 k1679 v1663 v1664 a1665 => g124l0 v1662 a1666 k1679 m v1663 v1664 a1665
def g124l0D : LoopD := { n := 33, sl := [1, 2, 4, 6, 7], bl := [1002, 1004], tp := [(.vl (.sv (.int .u32))), (.vl (.sv (.ptr 1002 0))), (.vl (.sv (.ptr 1004 0))), (.vl (.sv (.int .u64))), (.vl (.sv (.int .i64)))], bp := [(true, [(.seq (.int .u32) 6)]), (true, [(.seq (.int .u32) 6)])], xs := [(2, [2, 4, 6], [1002, 1004])] }
def g124l0K {α : Type} (L : Int → (List Int) → (Int → (List Int) → Option α) → Int → Int → (List Int) → Option α) (ls : List Lf) (k : Ex → St → Option α) : Option α :=
  L (lf ls 0).int ((lf ls 4).lst (.int .u32))
    (fun y0 y1 => k .normal (mkSt 33 [2, 4, 6] [(.vl (.sv (.ptr 1002 0))), (.vl (.sv (.ptr 1004 0))), (.vl (.sv (.int .u64 y0)))] [1002, 1004] [(true, [(.seq (.int .u32) 6 y1)]), (true, [(.seq (.int .u32) 6 ((lf ls 4).lst (.int .u32)))])]))
    (lf ls 1).int (lf ls 2).int ((lf ls 3).lst (.int .u32))
def g124b {α : Type}  (L_g124l0 : {α : Type} → Int → (List Int) → (Int → (List Int) → Option α) → Int → Int → (List Int) → Option α) (u1660 : List Int) (p1661 : Int) (k1684 : (List Int) → Int → Option α) : Option α :=
  L_g124l0 p1661 [0, 0, 0, 0, 0, 0]
    (fun x1681 l1682 =>
      k1684 l1682 (IntKind.wrap .u32 x1681))
    (0 : Int) (5 : Int) u1660
def g124 {α : Type} (m : Nat) : (List Int) → Int → ((List Int) → Int → Option α) → Option α :=
  g124b (g124l0M m)
def g124tp : List TP := [(.vl (.agg [(.seq (.int .u32) 6)])), (.vl (.sv (.int .u32)))]
def g124bp : List BP := []
def g124K {α : Type} (G : (List Int) → Int → ((List Int) → Int → Option α) → Option α) (ls : List Lf) (k : TV → List (List Seg) → List (List Seg) → Option α) : Option α :=
  G ((lf ls 0).lst (.int .u32)) (lf ls 1).int
    (fun y0 y1 => k (.tup [(.agg [(.seq (.int .u32) 6 y0)]), (.sv (.int .u32 y1))]) [] [])
def g124hd  (L_g124l0 : {α : Type} → Int → (List Int) → (Int → (List Int) → Option α) → Int → Int → (List Int) → Option α) : Hd where
  call := fun f args Bs k => none
  loop := fun id st k => cond (Nat.beq id 0) (loopH g124l0D (g124l0K L_g124l0) st k) (none)
  ro := fun f => []
def g124h (m : Nat) : Hd := g124hd (g124l0M m)
theorem g124l0Step  (L_g124l0 : {α : Type} → Int → (List Int) → (Int → (List Int) → Option α) → Int → Int → (List Int) → Option α) {α : Type} (L : Int → (List Int) → (Int → (List Int) → Option α) → Int → Int → (List Int) → Option α) (ls : List Lf) (k : Ex → St → Option α) :
    g124l0K (fun v1662 a1666 k1679 v1663 v1664 a1665 => g124l0b v1662 a1666 k1679 (L v1662 a1666 k1679) v1663 v1664 a1665) ls k = ev tab (g124hd L_g124l0) (bodyAt Go.Proofs.Try.f124 0) (atHead g124l0D ls) (loopK g124l0D 0 (loopH g124l0D (g124l0K L)) k) := by kernel_rfl
theorem g124Main  (L_g124l0 : {α : Type} → Int → (List Int) → (Int → (List Int) → Option α) → Int → Int → (List Int) → Option α) {α : Type} (ls : List Lf) (k : TV → List (List Seg) → List (List Seg) → Option α) :
    g124K (g124b L_g124l0) ls k = evFun tab (g124hd L_g124l0) Go.Proofs.Try.f124 (fillT g124tp ls).1 (fillB g124bp (fillT g124tp ls).2).1 k := by kernel_rfl
theorem g124Calls (m : Nat) : (g124h m).CallsOk Go.Proofs.Try.prog := cok_nil
theorem g124l0Ok (m : Nat) (α : Type) (st : St) (k : Ex → St → Option α) (r : α) (h : (g124h m).loop 0 st k = some r) :
    ∃ e st', k e st' = some r ∧ CodeS Go.Proofs.Try.prog (.block 0 (.loop (bodyAt Go.Proofs.Try.f124 0))) st e st' :=
  loop_ok (tab := tab) (h := g124h m) (F := fun n ls k => g124l0K (fun v1662 a1666 k1679 v1663 v1664 a1665 => g124l0 v1662 a1666 k1679 n v1663 v1664 a1665) ls k) tabOk (g124Calls m) mixed (loopsOk_of _ (fun p hp => by rw [show loopsOf (bodyAt Go.Proofs.Try.f124 0) = [] by kernel_rfl] at hp; cases hp))
    (fun _ _ => rfl) (fun n ls k => g124l0Step (g124l0M m) (fun v1662 a1666 k1679 => g124l0 v1662 a1666 k1679 n) ls k) (n := m) h
theorem g124Fn (m : Nat) : FnOk Go.Proofs.Try.prog 124 g124tp g124bp (fun {α} => g124K (g124 (α := α) m)) :=
  fn_ok (tab := tab) (h := g124h m) (fn := Go.Proofs.Try.f124) (F := fun {α} => g124K (g124 (α := α) m)) tabOk (g124Calls m) mixed (by kernel_rfl) (by kernel_rfl) (fun c hc => by
    rw [bodyOf_some hc]
    exact loopsOk_of _ (fun p hp => by
    rw [show loopsOf (bodyOf Go.Proofs.Try.f124) = [(0, bodyAt Go.Proofs.Try.f124 0)] by kernel_rfl] at hp
    simp only [List.mem_cons, List.not_mem_nil, or_false] at hp
    rcases hp with rfl
    exact g124l0Ok m))
    (fun α ls k => g124Main (g124l0M m) ls k)
theorem g124Ok (m : Nat) : RowOk Go.Proofs.Try.prog 124 (fun {α} => rowK g124tp g124bp (g124K (g124 (α := α) m))) := row_of (g124Fn m)

/-! ### g125: math/bits.LeadingZeros32 -/
def g125b {α : Type} (G_g119 : {α : Type} → Int → (Int → Option α) → Option α)  (p1691 : Int) (k1694 : Int → Option α) : Option α :=
  G_g119 p1691
    (fun x1692 =>
      k1694 (IntKind.wrap .i64 ((32 : Int) - x1692)))
def g125 {α : Type} (m : Nat) : Int → (Int → Option α) → Option α :=
  g125b (g119 m)
def g125tp : List TP := [(.vl (.sv (.int .u32)))]
def g125bp : List BP := []
def g125K {α : Type} (G : Int → (Int → Option α) → Option α) (ls : List Lf) (k : TV → List (List Seg) → List (List Seg) → Option α) : Option α :=
  G (lf ls 0).int
    (fun y0 => k (.vl (.sv (.int .i64 y0))) [] [])
def g125hd (G_g119 : {α : Type} → Int → (Int → Option α) → Option α)  : Hd where
  call := fun f args Bs k => cond (Nat.beq f 119) (rowK g119tp g119bp (g119K G_g119) args Bs k) (none)
  loop := fun id st k => none
  ro := fun f => []
def g125h (m : Nat) : Hd := g125hd (g119 m)
theorem g125Main (G_g119 : {α : Type} → Int → (Int → Option α) → Option α)  {α : Type} (ls : List Lf) (k : TV → List (List Seg) → List (List Seg) → Option α) :
    g125K (g125b G_g119) ls k = evFun tab (g125hd G_g119) Go.Proofs.Try.f125 (fillT g125tp ls).1 (fillB g125bp (fillT g125tp ls).2).1 k := by kernel_rfl
theorem g125Calls (m : Nat) : (g125h m).CallsOk Go.Proofs.Try.prog := (cok_cons (g119Ok m) cok_nil)
theorem g125Fn (m : Nat) : FnOk Go.Proofs.Try.prog 125 g125tp g125bp (fun {α} => g125K (g125 (α := α) m)) :=
  fn_ok (tab := tab) (h := g125h m) (fn := Go.Proofs.Try.f125) (F := fun {α} => g125K (g125 (α := α) m)) tabOk (g125Calls m) mixed (by kernel_rfl) (by kernel_rfl) (fun c hc => by
    rw [bodyOf_some hc]
    exact loopsOk_of _ (fun p hp => by rw [show loopsOf (bodyOf Go.Proofs.Try.f125) = [] by kernel_rfl] at hp; cases hp))
    (fun α ls k => g125Main (g119 m) ls k)
theorem g125Ok (m : Nat) : RowOk Go.Proofs.Try.prog 125 (fun {α} => rowK g125tp g125bp (g125K (g125 (α := α) m))) := row_of (g125Fn m)

/-! ### g126: impl.divideStep -/
def g126l0b {α : Type}   (m1743 : Nat) (m1744 : Nat) (m1745 : Nat) (m1746 : Nat) (m1747 : Nat) (m1748 : Nat) (v1749 : Int) (a1752 : List Int) (a1753 : List Int) (k1780 : Int → Option α) (r1781 : Int → Int → Option α) (v1750 : Int) (v1751 : Int) : Option α :=
  cond ((Int.fdiv v1750 (2 ^ 32)) != (0 : Int))
   (
    let x1756 : Int := IntKind.wrap .u64 (v1750 - (1 : Int))
    let x1757 : Int := IntKind.wrap .i64 (v1749 - (1 : Int))
    if 0 ≤ x1757 ∧ x1757 < (m1747 : Nat) then
      if (m1746 + x1757.toNat) < 6 then
        let x1760 : Int := IntKind.wrap .u64 (v1751 + (IntKind.wrap .u64 (List.getD a1753 (m1746 + x1757.toNat) 0)))
        cond ((Int.fdiv x1760 (2 ^ 32)) != (0 : Int))
         (
          k1780 x1756)
         (
          r1781 x1756 x1760)
      else
        none
    else
      none)
   (
    let x1763 : Int := IntKind.wrap .i64 (v1749 - (2 : Int))
    if 0 ≤ x1763 ∧ x1763 < (m1747 : Nat) then
      if (m1746 + x1763.toNat) < 6 then
        let x1768 : Int := IntKind.wrap .i64 (v1749 - (2 : Int))
        if 0 ≤ x1768 ∧ x1768 < (m1744 : Nat) then
          if (m1743 + x1768.toNat) < 7 then
            cond (decide ((IntKind.wrap .u64 (v1750 * (IntKind.wrap .u64 (List.getD a1753 (m1746 + x1763.toNat) 0)))) > (ibits .or .u64 (IntKind.wrap .u64 (v1751 * 2 ^ 32)) (IntKind.wrap .u64 (List.getD a1752 (m1743 + x1768.toNat) 0)))))
             (
              let x1773 : Int := IntKind.wrap .u64 (v1750 - (1 : Int))
              let x1774 : Int := IntKind.wrap .i64 (v1749 - (1 : Int))
              if 0 ≤ x1774 ∧ x1774 < (m1747 : Nat) then
                if (m1746 + x1774.toNat) < 6 then
                  let x1777 : Int := IntKind.wrap .u64 (v1751 + (IntKind.wrap .u64 (List.getD a1753 (m1746 + x1774.toNat) 0)))
                  cond ((Int.fdiv x1777 (2 ^ 32)) != (0 : Int))
                   (
                    k1780 x1773)
                   (
                    r1781 x1773 x1777)
                else
                  none
              else
                none)
             (
              k1780 v1750)
          else
            none
        else
          none
      else
        none
    else
      none)
def g126l0 {α : Type}   (m1743 : Nat) (m1744 : Nat) (m1745 : Nat) (m1746 : Nat) (m1747 : Nat) (m1748 : Nat) (v1749 : Int) (a1752 : List Int) (a1753 : List Int) (k1780 : Int → Option α) : Nat → Int → Int → Option α
  | 0 => fun _ _ => none
  | m + 1 => fun v1750 v1751 => g126l0b m1743 m1744 m1745 m1746 m1747 m1748 v1749 a1752 a1753 k1780 (g126l0 m1743 m1744 m1745 m1746 m1747 m1748 v1749 a1752 a1753 k1780 m) v1750 v1751
def g126l0M {α : Type} (m : Nat) : Nat → Nat → Nat → Nat → Nat → Nat → Int → (List Int) → (List Int) → (Int → Option α) → Int → Int → Option α :=
  fun m1743 m1744 m1745 m1746 m1747 m1748 v1749 a1752 a1753 k1780 v1750 v1751 => g126l0 m1743 m1744 m1745 m1746 m1747 m1748 v1749 a1752 a1753 k1780 m v1750 v1751
def g126l0D : LoopD := { n := 170, sl := [0, 1, 5, 7, 8], bl := [0, 1], tp := [(.vl (.sv (.slc 0 0 1))), (.vl (.sv (.slc 1 0 1))), (.vl (.sv (.int .i64))), (.vl (.sv (.int .u64))), (.vl (.sv (.int .u64)))], bp := [(true, [(.seq (.int .u32) 7)]), (false, [(.seq (.int .u32) 6)])], xs := [(2, [0, 1, 5, 7], [0, 1])] }
def g126l0K {α : Type} (L : Nat → Nat → Nat → Nat → Nat → Nat → Int → (List Int) → (List Int) → (Int → Option α) → Int → Int → Option α) (ls : List Lf) (k : Ex → St → Option α) : Option α :=
  L (lf ls 0).nat (lf ls 1).nat (lf ls 2).nat (lf ls 3).nat (lf ls 4).nat (lf ls 5).nat (lf ls 6).int ((lf ls 9).lst (.int .u32)) ((lf ls 10).lst (.int .u32))
    (fun y7 => k .normal (mkSt 170 [0, 1, 5, 7] [(.vl (.sv (.slc 0 0 1 (lf ls 0).nat (lf ls 1).nat (lf ls 2).nat))), (.vl (.sv (.slc 1 0 1 (lf ls 3).nat (lf ls 4).nat (lf ls 5).nat))), (.vl (.sv (.int .i64 (lf ls 6).int))), (.vl (.sv (.int .u64 y7)))] [0, 1] [(true, [(.seq (.int .u32) 7 ((lf ls 9).lst (.int .u32)))]), (false, [(.seq (.int .u32) 6 ((lf ls 10).lst (.int .u32)))])]))
    (lf ls 7).int (lf ls 8).int
def g126l2b {α : Type}   (m1783 : Nat) (m1784 : Nat) (m1785 : Nat) (m1786 : Nat) (m1787 : Nat) (m1788 : Nat) (v1789 : Int) (v1790 : Int) (v1793 : Int) (a1796 : List Int) (k1812 : Int → Int → (List Int) → Option α) (r1813 : Int → Int → Int → (List Int) → Option α) (v1791 : Int) (v1792 : Int) (v1794 : Int) (a1795 : List Int) : Option α :=
  cond (decide (v1794 < v1793))
   (
    if 0 ≤ v1794 ∧ v1794 < (m1787 : Nat) then
      if (m1786 + v1794.toNat) < 6 then
        let x1801 : Int := IntKind.wrap .u64 (v1792 + (IntKind.wrap .u64 (v1790 * (IntKind.wrap .u64 (List.getD a1796 (m1786 + v1794.toNat) 0)))))
        if 0 ≤ v1794 ∧ v1794 < (m1784 : Nat) then
          if (m1783 + v1794.toNat) < 7 then
            let x1806 : Int := IntKind.wrap .u64 ((IntKind.wrap .u64 ((IntKind.wrap .u64 (List.getD a1795 (m1783 + v1794.toNat) 0)) - (ibits .and .u64 x1801 (4294967295 : Int)))) - v1791)
            if 0 ≤ v1794 ∧ v1794 < (m1784 : Nat) then
              if (m1783 + v1794.toNat) < 7 then
                r1813 (Int.fdiv x1806 (2 ^ 63)) (Int.fdiv x1801 (2 ^ 32)) (IntKind.wrap .i64 (v1794 + (1 : Int))) (List.set a1795 (m1783 + v1794.toNat) (IntKind.wrap .u32 x1806))
              else
                none
            else
              none
          else
            none
        else
          none
      else
        none
    else
      none)
   (
    k1812 v1791 v1792 a1795)
def g126l2 {α : Type}   (m1783 : Nat) (m1784 : Nat) (m1785 : Nat) (m1786 : Nat) (m1787 : Nat) (m1788 : Nat) (v1789 : Int) (v1790 : Int) (v1793 : Int) (a1796 : List Int) (k1812 : Int → Int → (List Int) → Option α) : Nat → Int → Int → Int → (List Int) → Option α
  | 0 => fun _ _ _ _ => none
  | m + 1 => fun v1791 v1792 v1794 a1795 => g126l2b m1783 m1784 m1785 m1786 m1787 m1788 v1789 v1790 v1793 a1796 k1812 (g126l2 m1783 m1784 m1785 m1786 m1787 m1788 v1789 v1790 v1793 a1796 k1812 m) v1791 v1792 v1794 a1795
def g126l2M {α : Type} (m : Nat) : Nat → Nat → Nat → Nat → Nat → Nat → Int → Int → Int → (List Int) → (Int → Int → (List Int) → Option α) → Int → Int → Int → (List Int) → Option α :=
  fun m1783 m1784 m1785 m1786 m1787 m1788 v1789 v1790 v1793 a1796 k1812 v1791 v1792 v1794 a1795 => g126l2 m1783 m1784 m1785 m1786 m1787 m1788 v1789 v1790 v1793 a1796 k1812 m v1791 v1792 v1794 a1795
def g126l2D : LoopD := { n := 170, sl := [0, 1, 5, 7, 9, 10, 82, 83], bl := [0, 1], tp := [(.vl (.sv (.slc 0 0 1))), (.vl (.sv (.slc 1 0 1))), (.vl (.sv (.int .i64))), (.vl (.sv (.int .u64))), (.vl (.sv (.int .u64))), (.vl (.sv (.int .u64))), (.vl (.sv (.int .i64))), (.vl (.sv (.int .i64)))], bp := [(true, [(.seq (.int .u32) 7)]), (false, [(.seq (.int .u32) 6)])], xs := [(4, [0, 1, 5, 7, 9, 10], [0, 1])] }
def g126l2K {α : Type} (L : Nat → Nat → Nat → Nat → Nat → Nat → Int → Int → Int → (List Int) → (Int → Int → (List Int) → Option α) → Int → Int → Int → (List Int) → Option α) (ls : List Lf) (k : Ex → St → Option α) : Option α :=
  L (lf ls 0).nat (lf ls 1).nat (lf ls 2).nat (lf ls 3).nat (lf ls 4).nat (lf ls 5).nat (lf ls 6).int (lf ls 7).int (lf ls 10).int ((lf ls 13).lst (.int .u32))
    (fun y8 y9 y10 => k .normal (mkSt 170 [0, 1, 5, 7, 9, 10] [(.vl (.sv (.slc 0 0 1 (lf ls 0).nat (lf ls 1).nat (lf ls 2).nat))), (.vl (.sv (.slc 1 0 1 (lf ls 3).nat (lf ls 4).nat (lf ls 5).nat))), (.vl (.sv (.int .i64 (lf ls 6).int))), (.vl (.sv (.int .u64 (lf ls 7).int))), (.vl (.sv (.int .u64 y8))), (.vl (.sv (.int .u64 y9)))] [0, 1] [(true, [(.seq (.int .u32) 7 y10)]), (false, [(.seq (.int .u32) 6 ((lf ls 13).lst (.int .u32)))])]))
    (lf ls 8).int (lf ls 9).int (lf ls 11).int ((lf ls 12).lst (.int .u32))
def g126l4b {α : Type}   (m1826 : Nat) (m1827 : Nat) (m1828 : Nat) (m1829 : Nat) (m1830 : Nat) (m1831 : Nat) (v1832 : Int) (v1833 : Int) (v1835 : Int) (a1838 : List Int) (k1850 : Int → (List Int) → Option α) (r1851 : Int → Int → (List Int) → Option α) (v1834 : Int) (v1836 : Int) (a1837 : List Int) : Option α :=
  cond (decide (v1836 < v1835))
   (
    if 0 ≤ v1836 ∧ v1836 < (m1827 : Nat) then
      if (m1826 + v1836.toNat) < 7 then
        if 0 ≤ v1836 ∧ v1836 < (m1830 : Nat) then
          if (m1829 + v1836.toNat) < 6 then
            let x1845 : Int := IntKind.wrap .u64 (v1834 + (IntKind.wrap .u64 ((IntKind.wrap .u64 (List.getD a1837 (m1826 + v1836.toNat) 0)) + (IntKind.wrap .u64 (List.getD a1838 (m1829 + v1836.toNat) 0)))))
            if 0 ≤ v1836 ∧ v1836 < (m1827 : Nat) then
              if (m1826 + v1836.toNat) < 7 then
                r1851 (Int.fdiv x1845 (2 ^ 32)) (IntKind.wrap .i64 (v1836 + (1 : Int))) (List.set a1837 (m1826 + v1836.toNat) (IntKind.wrap .u32 x1845))
              else
                none
            else
              none
          else
            none
        else
          none
      else
        none
    else
      none)
   (
    k1850 v1834 a1837)
def g126l4 {α : Type}   (m1826 : Nat) (m1827 : Nat) (m1828 : Nat) (m1829 : Nat) (m1830 : Nat) (m1831 : Nat) (v1832 : Int) (v1833 : Int) (v1835 : Int) (a1838 : List Int) (k1850 : Int → (List Int) → Option α) : Nat → Int → Int → (List Int) → Option α
  | 0 => fun _ _ _ => none
  | m + 1 => fun v1834 v1836 a1837 => g126l4b m1826 m1827 m1828 m1829 m1830 m1831 v1832 v1833 v1835 a1838 k1850 (g126l4 m1826 m1827 m1828 m1829 m1830 m1831 v1832 v1833 v1835 a1838 k1850 m) v1834 v1836 a1837
def g126l4M {α : Type} (m : Nat) : Nat → Nat → Nat → Nat → Nat → Nat → Int → Int → Int → (List Int) → (Int → (List Int) → Option α) → Int → Int → (List Int) → Option α :=
  fun m1826 m1827 m1828 m1829 m1830 m1831 v1832 v1833 v1835 a1838 k1850 v1834 v1836 a1837 => g126l4 m1826 m1827 m1828 m1829 m1830 m1831 v1832 v1833 v1835 a1838 k1850 m v1834 v1836 a1837
def g126l4D : LoopD := { n := 170, sl := [0, 1, 5, 7, 10, 134, 135], bl := [0, 1], tp := [(.vl (.sv (.slc 0 0 1))), (.vl (.sv (.slc 1 0 1))), (.vl (.sv (.int .i64))), (.vl (.sv (.int .u64))), (.vl (.sv (.int .u64))), (.vl (.sv (.int .i64))), (.vl (.sv (.int .i64)))], bp := [(true, [(.seq (.int .u32) 7)]), (false, [(.seq (.int .u32) 6)])], xs := [(6, [0, 5, 7, 10], [0, 1])] }
def g126l4K {α : Type} (L : Nat → Nat → Nat → Nat → Nat → Nat → Int → Int → Int → (List Int) → (Int → (List Int) → Option α) → Int → Int → (List Int) → Option α) (ls : List Lf) (k : Ex → St → Option α) : Option α :=
  L (lf ls 0).nat (lf ls 1).nat (lf ls 2).nat (lf ls 3).nat (lf ls 4).nat (lf ls 5).nat (lf ls 6).int (lf ls 7).int (lf ls 9).int ((lf ls 12).lst (.int .u32))
    (fun y5 y6 => k .normal (mkSt 170 [0, 5, 7, 10] [(.vl (.sv (.slc 0 0 1 (lf ls 0).nat (lf ls 1).nat (lf ls 2).nat))), (.vl (.sv (.int .i64 (lf ls 6).int))), (.vl (.sv (.int .u64 (lf ls 7).int))), (.vl (.sv (.int .u64 y5)))] [0, 1] [(true, [(.seq (.int .u32) 7 y6)]), (false, [(.seq (.int .u32) 6 ((lf ls 12).lst (.int .u32)))])]))
    (lf ls 8).int (lf ls 10).int ((lf ls 11).lst (.int .u32))
def g126b {α : Type}  (L_g126l0 : {α : Type} → Nat → Nat → Nat → Nat → Nat → Nat → Int → (List Int) → (List Int) → (Int → Option α) → Int → Int → Option α) (L_g126l2 : {α : Type} → Nat → Nat → Nat → Nat → Nat → Nat → Int → Int → Int → (List Int) → (Int → Int → (List Int) → Option α) → Int → Int → Int → (List Int) → Option α) (L_g126l4 : {α : Type} → Nat → Nat → Nat → Nat → Nat → Nat → Int → Int → Int → (List Int) → (Int → (List Int) → Option α) → Int → Int → (List Int) → Option α) (m1720 : Nat) (m1721 : Nat) (m1722 : Nat) (m1723 : Nat) (m1724 : Nat) (m1725 : Nat) (u1726 : List Int) (u1727 : List Int) (k1860 : Int → (List Int) → Option α) : Option α :=
  if 0 ≤ ((m1724 : Nat) : Int) ∧ ((m1724 : Nat) : Int) < (m1721 : Nat) then
    if (m1720 + ((m1724 : Nat) : Int).toNat) < 7 then
      let x1731 : Int := IntKind.wrap .i64 (((m1724 : Nat) : Int) - (1 : Int))
      if 0 ≤ x1731 ∧ x1731 < (m1721 : Nat) then
        if (m1720 + x1731.toNat) < 7 then
          let x1734 : Int := ibits .or .u64 (IntKind.wrap .u64 ((IntKind.wrap .u64 (List.getD u1726 (m1720 + ((m1724 : Nat) : Int).toNat) 0)) * 2 ^ 32)) (IntKind.wrap .u64 (List.getD u1726 (m1720 + x1731.toNat) 0))
          let x1735 : Int := IntKind.wrap .i64 (((m1724 : Nat) : Int) - (1 : Int))
          if 0 ≤ x1735 ∧ x1735 < (m1724 : Nat) then
            if (m1723 + x1735.toNat) < 6 then
              let x1737 : Int := IntKind.wrap .u64 (List.getD u1727 (m1723 + x1735.toNat) 0)
              if x1737 = 0 then
                none
              else
                let x1739 : Int := IntKind.wrap .i64 (((m1724 : Nat) : Int) - (1 : Int))
                if 0 ≤ x1739 ∧ x1739 < (m1724 : Nat) then
                  if (m1723 + x1739.toNat) < 6 then
                    let x1741 : Int := IntKind.wrap .u64 (List.getD u1727 (m1723 + x1739.toNat) 0)
                    if x1741 = 0 then
                      none
                    else
                      L_g126l0 m1720 m1721 m1722 m1723 m1724 m1725 ((m1724 : Nat) : Int) u1726 u1727
                        (fun x1782 =>
                          L_g126l2 m1720 m1721 m1722 m1723 m1724 m1725 ((m1724 : Nat) : Int) x1782 ((m1724 : Nat) : Int) u1727
                            (fun x1814 x1815 l1816 =>
                              if 0 ≤ ((m1724 : Nat) : Int) ∧ ((m1724 : Nat) : Int) < (m1721 : Nat) then
                                if (m1720 + ((m1724 : Nat) : Int).toNat) < 7 then
                                  let x1820 : Int := IntKind.wrap .u64 ((IntKind.wrap .u64 ((IntKind.wrap .u64 (List.getD l1816 (m1720 + ((m1724 : Nat) : Int).toNat) 0)) - x1815)) - x1814)
                                  if 0 ≤ ((m1724 : Nat) : Int) ∧ ((m1724 : Nat) : Int) < (m1721 : Nat) then
                                    if (m1720 + ((m1724 : Nat) : Int).toNat) < 7 then
                                      let l1822 : List Int := List.set l1816 (m1720 + ((m1724 : Nat) : Int).toNat) (IntKind.wrap .u32 x1820)
                                      cond ((Int.fdiv x1820 (2 ^ 63)) == (0 : Int))
                                       (
                                        k1860 (IntKind.wrap .u32 x1782) l1822)
                                       (
                                        L_g126l4 m1720 m1721 m1722 m1723 m1724 m1725 ((m1724 : Nat) : Int) x1782 ((m1724 : Nat) : Int) u1727
                                          (fun x1852 l1853 =>
                                            if 0 ≤ ((m1724 : Nat) : Int) ∧ ((m1724 : Nat) : Int) < (m1721 : Nat) then
                                              if (m1720 + ((m1724 : Nat) : Int).toNat) < 7 then
                                                if 0 ≤ ((m1724 : Nat) : Int) ∧ ((m1724 : Nat) : Int) < (m1721 : Nat) then
                                                  if (m1720 + ((m1724 : Nat) : Int).toNat) < 7 then
                                                    k1860 (IntKind.wrap .u32 (IntKind.wrap .u64 (x1782 - (1 : Int)))) (List.set l1853 (m1720 + ((m1724 : Nat) : Int).toNat) (IntKind.wrap .u32 ((List.getD l1853 (m1720 + ((m1724 : Nat) : Int).toNat) 0) + (IntKind.wrap .u32 x1852))))
                                                  else
                                                    none
                                                else
                                                  none
                                              else
                                                none
                                            else
                                              none)
                                          (0 : Int) (0 : Int) l1822)
                                    else
                                      none
                                  else
                                    none
                                else
                                  none
                              else
                                none)
                            (0 : Int) (0 : Int) (0 : Int) u1726)
                        (IntKind.wrap .u64 (Int.tdiv x1734 x1737)) (Int.tmod x1734 x1741)
                  else
                    none
                else
                  none
            else
              none
          else
            none
        else
          none
      else
        none
    else
      none
  else
    none
def g126 {α : Type} (m : Nat) : Nat → Nat → Nat → Nat → Nat → Nat → (List Int) → (List Int) → (Int → (List Int) → Option α) → Option α :=
  g126b (g126l0M m) (g126l2M m) (g126l4M m)
def g126tp : List TP := [(.vl (.sv (.slc 0 0 1))), (.vl (.sv (.slc 1 0 1)))]
def g126bp : List BP := [(true, [(.seq (.int .u32) 7)]), (false, [(.seq (.int .u32) 6)])]
def g126K {α : Type} (G : Nat → Nat → Nat → Nat → Nat → Nat → (List Int) → (List Int) → (Int → (List Int) → Option α) → Option α) (ls : List Lf) (k : TV → List (List Seg) → List (List Seg) → Option α) : Option α :=
  G (lf ls 0).nat (lf ls 1).nat (lf ls 2).nat (lf ls 3).nat (lf ls 4).nat (lf ls 5).nat ((lf ls 6).lst (.int .u32)) ((lf ls 7).lst (.int .u32))
    (fun y0 y1 => k (.vl (.sv (.int .u32 y0))) [[(.seq (.int .u32) 7 y1)], [(.seq (.int .u32) 6 ((lf ls 7).lst (.int .u32)))]] [])
def g126hd  (L_g126l0 : {α : Type} → Nat → Nat → Nat → Nat → Nat → Nat → Int → (List Int) → (List Int) → (Int → Option α) → Int → Int → Option α) (L_g126l2 : {α : Type} → Nat → Nat → Nat → Nat → Nat → Nat → Int → Int → Int → (List Int) → (Int → Int → (List Int) → Option α) → Int → Int → Int → (List Int) → Option α) (L_g126l4 : {α : Type} → Nat → Nat → Nat → Nat → Nat → Nat → Int → Int → Int → (List Int) → (Int → (List Int) → Option α) → Int → Int → (List Int) → Option α) : Hd where
  call := fun f args Bs k => none
  loop := fun id st k => cond (Nat.beq id 0) (loopH g126l0D (g126l0K L_g126l0) st k) (cond (Nat.beq id 2) (loopH g126l2D (g126l2K L_g126l2) st k) (cond (Nat.beq id 4) (loopH g126l4D (g126l4K L_g126l4) st k) (none)))
  ro := fun f => []
def g126h (m : Nat) : Hd := g126hd (g126l0M m) (g126l2M m) (g126l4M m)
theorem g126l0Step  (L_g126l0 : {α : Type} → Nat → Nat → Nat → Nat → Nat → Nat → Int → (List Int) → (List Int) → (Int → Option α) → Int → Int → Option α) (L_g126l2 : {α : Type} → Nat → Nat → Nat → Nat → Nat → Nat → Int → Int → Int → (List Int) → (Int → Int → (List Int) → Option α) → Int → Int → Int → (List Int) → Option α) (L_g126l4 : {α : Type} → Nat → Nat → Nat → Nat → Nat → Nat → Int → Int → Int → (List Int) → (Int → (List Int) → Option α) → Int → Int → (List Int) → Option α) {α : Type} (L : Nat → Nat → Nat → Nat → Nat → Nat → Int → (List Int) → (List Int) → (Int → Option α) → Int → Int → Option α) (ls : List Lf) (k : Ex → St → Option α) :
    g126l0K (fun m1743 m1744 m1745 m1746 m1747 m1748 v1749 a1752 a1753 k1780 v1750 v1751 => g126l0b m1743 m1744 m1745 m1746 m1747 m1748 v1749 a1752 a1753 k1780 (L m1743 m1744 m1745 m1746 m1747 m1748 v1749 a1752 a1753 k1780) v1750 v1751) ls k = ev tab (g126hd L_g126l0 L_g126l2 L_g126l4) (bodyAt Go.Proofs.Try.f126 0) (atHead g126l0D ls) (loopK g126l0D 0 (loopH g126l0D (g126l0K L)) k) := by kernel_rfl
theorem g126l2Step  (L_g126l0 : {α : Type} → Nat → Nat → Nat → Nat → Nat → Nat → Int → (List Int) → (List Int) → (Int → Option α) → Int → Int → Option α) (L_g126l2 : {α : Type} → Nat → Nat → Nat → Nat → Nat → Nat → Int → Int → Int → (List Int) → (Int → Int → (List Int) → Option α) → Int → Int → Int → (List Int) → Option α) (L_g126l4 : {α : Type} → Nat → Nat → Nat → Nat → Nat → Nat → Int → Int → Int → (List Int) → (Int → (List Int) → Option α) → Int → Int → (List Int) → Option α) {α : Type} (L : Nat → Nat → Nat → Nat → Nat → Nat → Int → Int → Int → (List Int) → (Int → Int → (List Int) → Option α) → Int → Int → Int → (List Int) → Option α) (ls : List Lf) (k : Ex → St → Option α) :
    g126l2K (fun m1783 m1784 m1785 m1786 m1787 m1788 v1789 v1790 v1793 a1796 k1812 v1791 v1792 v1794 a1795 => g126l2b m1783 m1784 m1785 m1786 m1787 m1788 v1789 v1790 v1793 a1796 k1812 (L m1783 m1784 m1785 m1786 m1787 m1788 v1789 v1790 v1793 a1796 k1812) v1791 v1792 v1794 a1795) ls k = ev tab (g126hd L_g126l0 L_g126l2 L_g126l4) (bodyAt Go.Proofs.Try.f126 2) (atHead g126l2D ls) (loopK g126l2D 2 (loopH g126l2D (g126l2K L)) k) := by kernel_rfl
theorem g126l4Step  (L_g126l0 : {α : Type} → Nat → Nat → Nat → Nat → Nat → Nat → Int → (List Int) → (List Int) → (Int → Option α) → Int → Int → Option α) (L_g126l2 : {α : Type} → Nat → Nat → Nat → Nat → Nat → Nat → Int → Int → Int → (List Int) → (Int → Int → (List Int) → Option α) → Int → Int → Int → (List Int) → Option α) (L_g126l4 : {α : Type} → Nat → Nat → Nat → Nat → Nat → Nat → Int → Int → Int → (List Int) → (Int → (List Int) → Option α) → Int → Int → (List Int) → Option α) {α : Type} (L : Nat → Nat → Nat → Nat → Nat → Nat → Int → Int → Int → (List Int) → (Int → (List Int) → Option α) → Int → Int → (List Int) → Option α) (ls : List Lf) (k : Ex → St → Option α) :
    g126l4K (fun m1826 m1827 m1828 m1829 m1830 m1831 v1832 v1833 v1835 a1838 k1850 v1834 v1836 a1837 => g126l4b m1826 m1827 m1828 m1829 m1830 m1831 v1832 v1833 v1835 a1838 k1850 (L m1826 m1827 m1828 m1829 m1830 m1831 v1832 v1833 v1835 a1838 k1850) v1834 v1836 a1837) ls k = ev tab (g126hd L_g126l0 L_g126l2 L_g126l4) (bodyAt Go.Proofs.Try.f126 4) (atHead g126l4D ls) (loopK g126l4D 4 (loopH g126l4D (g126l4K L)) k) := by kernel_rfl
theorem g126Main  (L_g126l0 : {α : Type} → Nat → Nat → Nat → Nat → Nat → Nat → Int → (List Int) → (List Int) → (Int → Option α) → Int → Int → Option α) (L_g126l2 : {α : Type} → Nat → Nat → Nat → Nat → Nat → Nat → Int → Int → Int → (List Int) → (Int → Int → (List Int) → Option α) → Int → Int → Int → (List Int) → Option α) (L_g126l4 : {α : Type} → Nat → Nat → Nat → Nat → Nat → Nat → Int → Int → Int → (List Int) → (Int → (List Int) → Option α) → Int → Int → (List Int) → Option α) {α : Type} (ls : List Lf) (k : TV → List (List Seg) → List (List Seg) → Option α) :
    g126K (g126b L_g126l0 L_g126l2 L_g126l4) ls k = evFun tab (g126hd L_g126l0 L_g126l2 L_g126l4) Go.Proofs.Try.f126 (fillT g126tp ls).1 (fillB g126bp (fillT g126tp ls).2).1 k := by kernel_rfl
theorem g126Calls (m : Nat) : (g126h m).CallsOk Go.Proofs.Try.prog := cok_nil
theorem g126l0Ok (m : Nat) (α : Type) (st : St) (k : Ex → St → Option α) (r : α) (h : (g126h m).loop 0 st k = some r) :
    ∃ e st', k e st' = some r ∧ CodeS Go.Proofs.Try.prog (.block 0 (.loop (bodyAt Go.Proofs.Try.f126 0))) st e st' :=
  loop_ok (tab := tab) (h := g126h m) (F := fun n ls k => g126l0K (fun m1743 m1744 m1745 m1746 m1747 m1748 v1749 a1752 a1753 k1780 v1750 v1751 => g126l0 m1743 m1744 m1745 m1746 m1747 m1748 v1749 a1752 a1753 k1780 n v1750 v1751) ls k) tabOk (g126Calls m) mixed (loopsOk_of _ (fun p hp => by rw [show loopsOf (bodyAt Go.Proofs.Try.f126 0) = [] by kernel_rfl] at hp; cases hp))
    (fun _ _ => rfl) (fun n ls k => g126l0Step (g126l0M m) (g126l2M m) (g126l4M m) (fun m1743 m1744 m1745 m1746 m1747 m1748 v1749 a1752 a1753 k1780 => g126l0 m1743 m1744 m1745 m1746 m1747 m1748 v1749 a1752 a1753 k1780 n) ls k) (n := m) h
theorem g126l2Ok (m : Nat) (α : Type) (st : St) (k : Ex → St → Option α) (r : α) (h : (g126h m).loop 2 st k = some r) :
    ∃ e st', k e st' = some r ∧ CodeS Go.Proofs.Try.prog (.block 2 (.loop (bodyAt Go.Proofs.Try.f126 2))) st e st' :=
  loop_ok (tab := tab) (h := g126h m) (F := fun n ls k => g126l2K (fun m1783 m1784 m1785 m1786 m1787 m1788 v1789 v1790 v1793 a1796 k1812 v1791 v1792 v1794 a1795 => g126l2 m1783 m1784 m1785 m1786 m1787 m1788 v1789 v1790 v1793 a1796 k1812 n v1791 v1792 v1794 a1795) ls k) tabOk (g126Calls m) mixed (loopsOk_of _ (fun p hp => by rw [show loopsOf (bodyAt Go.Proofs.Try.f126 2) = [] by kernel_rfl] at hp; cases hp))
    (fun _ _ => rfl) (fun n ls k => g126l2Step (g126l0M m) (g126l2M m) (g126l4M m) (fun m1783 m1784 m1785 m1786 m1787 m1788 v1789 v1790 v1793 a1796 k1812 => g126l2 m1783 m1784 m1785 m1786 m1787 m1788 v1789 v1790 v1793 a1796 k1812 n) ls k) (n := m) h
theorem g126l4Ok (m : Nat) (α : Type) (st : St) (k : Ex → St → Option α) (r : α) (h : (g126h m).loop 4 st k = some r) :
    ∃ e st', k e st' = some r ∧ CodeS Go.Proofs.Try.prog (.block 4 (.loop (bodyAt Go.Proofs.Try.f126 4))) st e st' :=
  loop_ok (tab := tab) (h := g126h m) (F := fun n ls k => g126l4K (fun m1826 m1827 m1828 m1829 m1830 m1831 v1832 v1833 v1835 a1838 k1850 v1834 v1836 a1837 => g126l4 m1826 m1827 m1828 m1829 m1830 m1831 v1832 v1833 v1835 a1838 k1850 n v1834 v1836 a1837) ls k) tabOk (g126Calls m) mixed (loopsOk_of _ (fun p hp => by rw [show loopsOf (bodyAt Go.Proofs.Try.f126 4) = [] by kernel_rfl] at hp; cases hp))
    (fun _ _ => rfl) (fun n ls k => g126l4Step (g126l0M m) (g126l2M m) (g126l4M m) (fun m1826 m1827 m1828 m1829 m1830 m1831 v1832 v1833 v1835 a1838 k1850 => g126l4 m1826 m1827 m1828 m1829 m1830 m1831 v1832 v1833 v1835 a1838 k1850 n) ls k) (n := m) h
theorem g126Fn (m : Nat) : FnOk Go.Proofs.Try.prog 126 g126tp g126bp (fun {α} => g126K (g126 (α := α) m)) :=
  fn_ok (tab := tab) (h := g126h m) (fn := Go.Proofs.Try.f126) (F := fun {α} => g126K (g126 (α := α) m)) tabOk (g126Calls m) mixed (by kernel_rfl) (by kernel_rfl) (fun c hc => by
    rw [bodyOf_some hc]
    exact loopsOk_of _ (fun p hp => by
    rw [show loopsOf (bodyOf Go.Proofs.Try.f126) = [(0, bodyAt Go.Proofs.Try.f126 0), (2, bodyAt Go.Proofs.Try.f126 2), (4, bodyAt Go.Proofs.Try.f126 4)] by kernel_rfl] at hp
    simp only [List.mem_cons, List.not_mem_nil, or_false] at hp
    rcases hp with rfl | rfl | rfl
    · exact g126l0Ok m
    · exact g126l2Ok m
    · exact g126l4Ok m))
    (fun α ls k => g126Main (g126l0M m) (g126l2M m) (g126l4M m) ls k)
theorem g126Ok (m : Nat) : RowOk Go.Proofs.Try.prog 126 (fun {α} => rowK g126tp g126bp (g126K (g126 (α := α) m))) := row_of (g126Fn m)

/-! ### g107: (impl.size).by -/
def g107l0b {α : Type} (G_g126 : {α : Type} → Nat → Nat → Nat → Nat → Nat → Nat → (List Int) → (List Int) → (Int → (List Int) → Option α) → Option α)  (v1705 : Int) (v1706 : Int) (a1708 : List Int) (a1709 : List Int) (a1710 : List Int) (k1865 : (List Int) → (List Int) → Option α) (r1866 : Int → (List Int) → (List Int) → Option α) (v1707 : Int) (a1711 : List Int) (a1712 : List Int) : Option α :=
  cond (decide (v1707 ≥ (0 : Int)))
   (
    let x1715 : Int := IntKind.wrap .i64 ((IntKind.wrap .i64 (v1707 + v1705)) + (1 : Int))
    if 0 ≤ v1707 ∧ v1707 ≤ x1715 ∧ x1715 ≤ ((7 : Nat) : Int) then
      if 0 ≤ (0 : Int) ∧ (0 : Int) ≤ v1705 ∧ v1705 ≤ ((6 : Nat) : Int) then
        G_g126 (cond (Nat.beq 7 (Int.toNat v1707)) 0 (Int.toNat v1707)) ((Int.toNat x1715) - (Int.toNat v1707)) (7 - (Int.toNat v1707)) 0 ((Int.toNat v1705) - 0) 6 a1711 a1710
          (fun x1861 l1862 =>
            if 0 ≤ v1707 ∧ v1707 < (6 : Nat) then
              if v1707.toNat < 6 then
                r1866 (IntKind.wrap .i64 (v1707 - (1 : Int))) l1862 (List.set a1712 (v1707.toNat) x1861)
              else
                none
            else
              none)
      else
        none
    else
      none)
   (
    k1865 a1711 a1712)
def g107l0 {α : Type} (G_g126 : {α : Type} → Nat → Nat → Nat → Nat → Nat → Nat → (List Int) → (List Int) → (Int → (List Int) → Option α) → Option α)  (v1705 : Int) (v1706 : Int) (a1708 : List Int) (a1709 : List Int) (a1710 : List Int) (k1865 : (List Int) → (List Int) → Option α) : Nat → Int → (List Int) → (List Int) → Option α
  | 0 => fun _ _ _ => none
  | m + 1 => fun v1707 a1711 a1712 => g107l0b G_g126 v1705 v1706 a1708 a1709 a1710 k1865 (g107l0 G_g126 v1705 v1706 a1708 a1709 a1710 k1865 m) v1707 a1711 a1712
def g107l0M {α : Type} (m : Nat) : Int → Int → (List Int) → (List Int) → (List Int) → ((List Int) → (List Int) → Option α) → Int → (List Int) → (List Int) → Option α :=
  fun v1705 v1706 a1708 a1709 a1710 k1865 v1707 a1711 a1712 => g107l0 (g126 m) v1705 v1706 a1708 a1709 a1710 k1865 m v1707 a1711 a1712
def g107l0D : LoopD := { n := 86, sl := [4, 5, 6, 9, 10, 11, 13, 14], bl := [1004, 1005, 1010, 1011, 1013], tp := [(.vl (.sv (.ptr 1004 0))), (.vl (.sv (.ptr 1005 0))), (.vl (.sv (.int .i64))), (.vl (.sv (.int .i64))), (.vl (.sv (.ptr 1010 0))), (.vl (.sv (.ptr 1011 0))), (.vl (.sv (.ptr 1013 0))), (.vl (.sv (.int .i64)))], bp := [(true, [(.seq (.int .u32) 6)]), (true, [(.seq (.int .u32) 6)]), (true, [(.seq (.int .u32) 6)]), (true, [(.seq (.int .u32) 7)]), (true, [(.seq (.int .u32) 6)])], xs := [(2, [4, 5, 9, 11, 13], [1004, 1005, 1011, 1013])] }
def g107l0K {α : Type} (L : Int → Int → (List Int) → (List Int) → (List Int) → ((List Int) → (List Int) → Option α) → Int → (List Int) → (List Int) → Option α) (ls : List Lf) (k : Ex → St → Option α) : Option α :=
  L (lf ls 0).int (lf ls 1).int ((lf ls 3).lst (.int .u32)) ((lf ls 4).lst (.int .u32)) ((lf ls 5).lst (.int .u32))
    (fun y3 y4 => k .normal (mkSt 86 [4, 5, 9, 11, 13] [(.vl (.sv (.ptr 1004 0))), (.vl (.sv (.ptr 1005 0))), (.vl (.sv (.int .i64 (lf ls 1).int))), (.vl (.sv (.ptr 1011 0))), (.vl (.sv (.ptr 1013 0)))] [1004, 1005, 1011, 1013] [(true, [(.seq (.int .u32) 6 ((lf ls 3).lst (.int .u32)))]), (true, [(.seq (.int .u32) 6 ((lf ls 4).lst (.int .u32)))]), (true, [(.seq (.int .u32) 7 y3)]), (true, [(.seq (.int .u32) 6 y4)])]))
    (lf ls 2).int ((lf ls 6).lst (.int .u32)) ((lf ls 7).lst (.int .u32))
def g107b {α : Type} (G_g94 : {α : Type} → (List Int) → (Int → Option α) → Option α) (G_g124 : {α : Type} → (List Int) → Int → ((List Int) → Int → Option α) → Option α) (G_g111 : {α : Type} → (List Int) → (List Int) → (Int → Option α) → Option α) (G_g125 : {α : Type} → Int → (Int → Option α) → Option α) (G_g117 : {α : Type} → (List Int) → Int → ((List Int) → Option α) → Option α) (G_g126 : {α : Type} → Nat → Nat → Nat → Nat → Nat → Nat → (List Int) → (List Int) → (Int → (List Int) → Option α) → Option α) (G_g118 : {α : Type} → (List Int) → Int → ((List Int) → Option α) → Option α) (L_g107l0 : {α : Type} → Int → Int → (List Int) → (List Int) → (List Int) → ((List Int) → (List Int) → Option α) → Int → (List Int) → (List Int) → Option α) (u1653 : List Int) (u1654 : List Int) (k1876 : (List Int) → (List Int) → Option α) : Option α :=
  G_g94 u1654
    (fun x1655 =>
      let x1657 : Int := IntKind.wrap .i64 (Int.tdiv (IntKind.wrap .i64 (x1655 + (31 : Int))) (32 : Int))
      cond (x1657 == (1 : Int))
       (
        G_g124 u1653 (List.getD u1654 0 0)
          (fun l1685 x1686 =>
            k1876 l1685 [x1686, 0, 0, 0, 0, 0]))
       (
        G_g111 u1653 u1654
          (fun x1687 =>
            cond (decide (x1687 < (0 : Int)))
             (
              k1876 [0, 0, 0, 0, 0, 0] u1653)
             (
              let x1689 : Int := IntKind.wrap .i64 (x1657 - (1 : Int))
              if 0 ≤ x1689 ∧ x1689 < (6 : Nat) then
                if x1689.toNat < 6 then
                  G_g125 (List.getD u1654 x1689.toNat 0)
                    (fun x1695 =>
                      G_g117 u1654 x1695
                        (fun l1696 =>
                          G_g117 u1653 x1695
                            (fun l1697 =>
                              let l1698 : List Int := List.take 0 [0, 0, 0, 0, 0, 0, 0] ++ (List.take 6 (List.drop 0 l1697) ++ List.drop (0 + 6) [0, 0, 0, 0, 0, 0, 0])
                              cond (decide (x1695 > (0 : Int)))
                               (
                                let x1701 : Int := IntKind.wrap .i64 ((32 : Int) - x1695)
                                if x1701 < 0 then
                                  none
                                else
                                  L_g107l0 x1657 x1695 [0, 0, 0, 0, 0, 0] [0, 0, 0, 0, 0, 0] l1696
                                    (fun l1867 l1868 =>
                                      G_g118 (List.take 0 [0, 0, 0, 0, 0, 0] ++ (List.take 6 (List.drop 0 l1867) ++ List.drop (0 + 6) [0, 0, 0, 0, 0, 0])) x1695
                                        (fun l1870 =>
                                          k1876 l1868 l1870))
                                    (IntKind.wrap .i64 ((6 : Int) - x1657)) (List.set l1698 6 (Int.fdiv (List.getD u1653 5 0) (2 ^ (min x1701.toNat 32)))) [0, 0, 0, 0, 0, 0])
                               (
                                L_g107l0 x1657 x1695 [0, 0, 0, 0, 0, 0] [0, 0, 0, 0, 0, 0] l1696
                                  (fun l1872 l1873 =>
                                    G_g118 (List.take 0 [0, 0, 0, 0, 0, 0] ++ (List.take 6 (List.drop 0 l1872) ++ List.drop (0 + 6) [0, 0, 0, 0, 0, 0])) x1695
                                      (fun l1875 =>
                                        k1876 l1873 l1875))
                                  (IntKind.wrap .i64 ((6 : Int) - x1657)) l1698 [0, 0, 0, 0, 0, 0]))))
                else
                  none
              else
                none))))
def g107 {α : Type} (m : Nat) : (List Int) → (List Int) → ((List Int) → (List Int) → Option α) → Option α :=
  g107b (g94 m) (g124 m) (g111 m) (g125 m) (g117 m) (g126 m) (g118 m) (g107l0M m)
def g107tp : List TP := [(.vl (.agg [(.seq (.int .u32) 6)])), (.vl (.agg [(.seq (.int .u32) 6)]))]
def g107bp : List BP := []
def g107K {α : Type} (G : (List Int) → (List Int) → ((List Int) → (List Int) → Option α) → Option α) (ls : List Lf) (k : TV → List (List Seg) → List (List Seg) → Option α) : Option α :=
  G ((lf ls 0).lst (.int .u32)) ((lf ls 1).lst (.int .u32))
    (fun y0 y1 => k (.tup [(.agg [(.seq (.int .u32) 6 y0)]), (.agg [(.seq (.int .u32) 6 y1)])]) [] [])
def g107hd (G_g94 : {α : Type} → (List Int) → (Int → Option α) → Option α) (G_g124 : {α : Type} → (List Int) → Int → ((List Int) → Int → Option α) → Option α) (G_g111 : {α : Type} → (List Int) → (List Int) → (Int → Option α) → Option α) (G_g125 : {α : Type} → Int → (Int → Option α) → Option α) (G_g117 : {α : Type} → (List Int) → Int → ((List Int) → Option α) → Option α) (G_g126 : {α : Type} → Nat → Nat → Nat → Nat → Nat → Nat → (List Int) → (List Int) → (Int → (List Int) → Option α) → Option α) (G_g118 : {α : Type} → (List Int) → Int → ((List Int) → Option α) → Option α) (L_g107l0 : {α : Type} → Int → Int → (List Int) → (List Int) → (List Int) → ((List Int) → (List Int) → Option α) → Int → (List Int) → (List Int) → Option α) : Hd where
  call := fun f args Bs k => cond (Nat.beq f 94) (rowK g94tp g94bp (g94K G_g94) args Bs k) (cond (Nat.beq f 124) (rowK g124tp g124bp (g124K G_g124) args Bs k) (cond (Nat.beq f 111) (rowK g111tp g111bp (g111K G_g111) args Bs k) (cond (Nat.beq f 125) (rowK g125tp g125bp (g125K G_g125) args Bs k) (cond (Nat.beq f 117) (rowK g117tp g117bp (g117K G_g117) args Bs k) (cond (Nat.beq f 126) (rowK g126tp g126bp (g126K G_g126) args Bs k) (cond (Nat.beq f 118) (rowK g118tp g118bp (g118K G_g118) args Bs k) (none)))))))
  loop := fun id st k => cond (Nat.beq id 0) (loopH g107l0D (g107l0K L_g107l0) st k) (none)
  ro := fun f => cond (Nat.beq f 126) [1] ([])
def g107h (m : Nat) : Hd := g107hd (g94 m) (g124 m) (g111 m) (g125 m) (g117 m) (g126 m) (g118 m) (g107l0M m)
theorem g107l0Step (G_g94 : {α : Type} → (List Int) → (Int → Option α) → Option α) (G_g124 : {α : Type} → (List Int) → Int → ((List Int) → Int → Option α) → Option α) (G_g111 : {α : Type} → (List Int) → (List Int) → (Int → Option α) → Option α) (G_g125 : {α : Type} → Int → (Int → Option α) → Option α) (G_g117 : {α : Type} → (List Int) → Int → ((List Int) → Option α) → Option α) (G_g126 : {α : Type} → Nat → Nat → Nat → Nat → Nat → Nat → (List Int) → (List Int) → (Int → (List Int) → Option α) → Option α) (G_g118 : {α : Type} → (List Int) → Int → ((List Int) → Option α) → Option α) (L_g107l0 : {α : Type} → Int → Int → (List Int) → (List Int) → (List Int) → ((List Int) → (List Int) → Option α) → Int → (List Int) → (List Int) → Option α) {α : Type} (L : Int → Int → (List Int) → (List Int) → (List Int) → ((List Int) → (List Int) → Option α) → Int → (List Int) → (List Int) → Option α) (ls : List Lf) (k : Ex → St → Option α) :
    g107l0K (fun v1705 v1706 a1708 a1709 a1710 k1865 v1707 a1711 a1712 => g107l0b G_g126 v1705 v1706 a1708 a1709 a1710 k1865 (L v1705 v1706 a1708 a1709 a1710 k1865) v1707 a1711 a1712) ls k = ev tab (g107hd G_g94 G_g124 G_g111 G_g125 G_g117 G_g126 G_g118 L_g107l0) (bodyAt Go.Proofs.Try.f107 0) (atHead g107l0D ls) (loopK g107l0D 0 (loopH g107l0D (g107l0K L)) k) := by kernel_rfl
theorem g107Main (G_g94 : {α : Type} → (List Int) → (Int → Option α) → Option α) (G_g124 : {α : Type} → (List Int) → Int → ((List Int) → Int → Option α) → Option α) (G_g111 : {α : Type} → (List Int) → (List Int) → (Int → Option α) → Option α) (G_g125 : {α : Type} → Int → (Int → Option α) → Option α) (G_g117 : {α : Type} → (List Int) → Int → ((List Int) → Option α) → Option α) (G_g126 : {α : Type} → Nat → Nat → Nat → Nat → Nat → Nat → (List Int) → (List Int) → (Int → (List Int) → Option α) → Option α) (G_g118 : {α : Type} → (List Int) → Int → ((List Int) → Option α) → Option α) (L_g107l0 : {α : Type} → Int → Int → (List Int) → (List Int) → (List Int) → ((List Int) → (List Int) → Option α) → Int → (List Int) → (List Int) → Option α) {α : Type} (ls : List Lf) (k : TV → List (List Seg) → List (List Seg) → Option α) :
    g107K (g107b G_g94 G_g124 G_g111 G_g125 G_g117 G_g126 G_g118 L_g107l0) ls k = evFun tab (g107hd G_g94 G_g124 G_g111 G_g125 G_g117 G_g126 G_g118 L_g107l0) Go.Proofs.Try.f107 (fillT g107tp ls).1 (fillB g107bp (fillT g107tp ls).2).1 k := by kernel_rfl
theorem g107Calls (m : Nat) : (g107h m).CallsOk Go.Proofs.Try.prog := (cok_cons (g94Ok m) (cok_cons (g124Ok m) (cok_cons (g111Ok m) (cok_cons (g125Ok m) (cok_cons (g117Ok m) (cok_cons (g126Ok m) (cok_cons (g118Ok m) cok_nil)))))))
theorem g107l0Ok (m : Nat) (α : Type) (st : St) (k : Ex → St → Option α) (r : α) (h : (g107h m).loop 0 st k = some r) :
    ∃ e st', k e st' = some r ∧ CodeS Go.Proofs.Try.prog (.block 0 (.loop (bodyAt Go.Proofs.Try.f107 0))) st e st' :=
  loop_ok (tab := tab) (h := g107h m) (F := fun n ls k => g107l0K (fun v1705 v1706 a1708 a1709 a1710 k1865 v1707 a1711 a1712 => g107l0 (g126 m) v1705 v1706 a1708 a1709 a1710 k1865 n v1707 a1711 a1712) ls k) tabOk (g107Calls m) mixed (loopsOk_of _ (fun p hp => by rw [show loopsOf (bodyAt Go.Proofs.Try.f107 0) = [] by kernel_rfl] at hp; cases hp))
    (fun _ _ => rfl) (fun n ls k => g107l0Step (g94 m) (g124 m) (g111 m) (g125 m) (g117 m) (g126 m) (g118 m) (g107l0M m) (fun v1705 v1706 a1708 a1709 a1710 k1865 => g107l0 (g126 m) v1705 v1706 a1708 a1709 a1710 k1865 n) ls k) (n := m) h
theorem g107Fn (m : Nat) : FnOk Go.Proofs.Try.prog 107 g107tp g107bp (fun {α} => g107K (g107 (α := α) m)) :=
  fn_ok (tab := tab) (h := g107h m) (fn := Go.Proofs.Try.f107) (F := fun {α} => g107K (g107 (α := α) m)) tabOk (g107Calls m) mixed (by kernel_rfl) (by kernel_rfl) (fun c hc => by
    rw [bodyOf_some hc]
    exact loopsOk_of _ (fun p hp => by
    rw [show loopsOf (bodyOf Go.Proofs.Try.f107) = [(0, bodyAt Go.Proofs.Try.f107 0)] by kernel_rfl] at hp
    simp only [List.mem_cons, List.not_mem_nil, or_false] at hp
    rcases hp with rfl
    exact g107l0Ok m))
    (fun α ls k => g107Main (g94 m) (g124 m) (g111 m) (g125 m) (g117 m) (g126 m) (g118 m) (g107l0M m) ls k)
theorem g107Ok (m : Nat) : RowOk Go.Proofs.Try.prog 107 (fun {α} => rowK g107tp g107bp (g107K (g107 (α := α) m))) := row_of (g107Fn m)

/-! ### g90: impl.commonSize -/
def g90l0b {α : Type} (G_g107 : {α : Type} → (List Int) → (List Int) → ((List Int) → (List Int) → Option α) → Option α)  (a1651 : List Int) (k1879 : (List Int) → Option α) (r1880 : (List Int) → (List Int) → Option α) (a1649 : List Int) (a1650 : List Int) : Option α :=
  cond (!(eqLI a1650 [0, 0, 0, 0, 0, 0]))
   (
    G_g107 a1649 a1650
      (fun l1877 l1878 =>
        r1880 a1650 l1878))
   (
    k1879 a1649)
def g90l0 {α : Type} (G_g107 : {α : Type} → (List Int) → (List Int) → ((List Int) → (List Int) → Option α) → Option α)  (a1651 : List Int) (k1879 : (List Int) → Option α) : Nat → (List Int) → (List Int) → Option α
  | 0 => fun _ _ => none
  | m + 1 => fun a1649 a1650 => g90l0b G_g107 a1651 k1879 (g90l0 G_g107 a1651 k1879 m) a1649 a1650
def g90l0M {α : Type} (m : Nat) : (List Int) → ((List Int) → Option α) → (List Int) → (List Int) → Option α :=
  fun a1651 k1879 a1649 a1650 => g90l0 (g107 m) a1651 k1879 m a1649 a1650
def g90l0D : LoopD := { n := 19, sl := [2, 3, 4], bl := [1002, 1003, 1004], tp := [(.vl (.sv (.ptr 1002 0))), (.vl (.sv (.ptr 1003 0))), (.vl (.sv (.ptr 1004 0)))], bp := [(true, [(.seq (.int .u32) 6)]), (true, [(.seq (.int .u32) 6)]), (true, [(.seq (.int .u32) 6)])], xs := [(2, [2, 4], [1002, 1004])] }
def g90l0K {α : Type} (L : (List Int) → ((List Int) → Option α) → (List Int) → (List Int) → Option α) (ls : List Lf) (k : Ex → St → Option α) : Option α :=
  L ((lf ls 2).lst (.int .u32))
    (fun y0 => k .normal (mkSt 19 [2, 4] [(.vl (.sv (.ptr 1002 0))), (.vl (.sv (.ptr 1004 0)))] [1002, 1004] [(true, [(.seq (.int .u32) 6 y0)]), (true, [(.seq (.int .u32) 6 ((lf ls 2).lst (.int .u32)))])]))
    ((lf ls 0).lst (.int .u32)) ((lf ls 1).lst (.int .u32))
def g90b {α : Type} (G_g107 : {α : Type} → (List Int) → (List Int) → ((List Int) → (List Int) → Option α) → Option α) (L_g90l0 : {α : Type} → (List Int) → ((List Int) → Option α) → (List Int) → (List Int) → Option α) (u1647 : List Int) (u1648 : List Int) (k1882 : (List Int) → Option α) : Option α :=
  L_g90l0 [0, 0, 0, 0, 0, 0]
    (fun l1881 =>
      k1882 l1881)
    u1647 u1648
def g90 {α : Type} (m : Nat) : (List Int) → (List Int) → ((List Int) → Option α) → Option α :=
  g90b (g107 m) (g90l0M m)
def g90tp : List TP := [(.vl (.agg [(.seq (.int .u32) 6)])), (.vl (.agg [(.seq (.int .u32) 6)]))]
def g90bp : List BP := []
def g90K {α : Type} (G : (List Int) → (List Int) → ((List Int) → Option α) → Option α) (ls : List Lf) (k : TV → List (List Seg) → List (List Seg) → Option α) : Option α :=
  G ((lf ls 0).lst (.int .u32)) ((lf ls 1).lst (.int .u32))
    (fun y0 => k (.vl (.agg [(.seq (.int .u32) 6 y0)])) [] [])
def g90hd (G_g107 : {α : Type} → (List Int) → (List Int) → ((List Int) → (List Int) → Option α) → Option α) (L_g90l0 : {α : Type} → (List Int) → ((List Int) → Option α) → (List Int) → (List Int) → Option α) : Hd where
  call := fun f args Bs k => cond (Nat.beq f 107) (rowK g107tp g107bp (g107K G_g107) args Bs k) (none)
  loop := fun id st k => cond (Nat.beq id 0) (loopH g90l0D (g90l0K L_g90l0) st k) (none)
  ro := fun f => []
def g90h (m : Nat) : Hd := g90hd (g107 m) (g90l0M m)
theorem g90l0Step (G_g107 : {α : Type} → (List Int) → (List Int) → ((List Int) → (List Int) → Option α) → Option α) (L_g90l0 : {α : Type} → (List Int) → ((List Int) → Option α) → (List Int) → (List Int) → Option α) {α : Type} (L : (List Int) → ((List Int) → Option α) → (List Int) → (List Int) → Option α) (ls : List Lf) (k : Ex → St → Option α) :
    g90l0K (fun a1651 k1879 a1649 a1650 => g90l0b G_g107 a1651 k1879 (L a1651 k1879) a1649 a1650) ls k = ev tab (g90hd G_g107 L_g90l0) (bodyAt Go.Proofs.Try.f90 0) (atHead g90l0D ls) (loopK g90l0D 0 (loopH g90l0D (g90l0K L)) k) := by kernel_rfl
theorem g90Main (G_g107 : {α : Type} → (List Int) → (List Int) → ((List Int) → (List Int) → Option α) → Option α) (L_g90l0 : {α : Type} → (List Int) → ((List Int) → Option α) → (List Int) → (List Int) → Option α) {α : Type} (ls : List Lf) (k : TV → List (List Seg) → List (List Seg) → Option α) :
    g90K (g90b G_g107 L_g90l0) ls k = evFun tab (g90hd G_g107 L_g90l0) Go.Proofs.Try.f90 (fillT g90tp ls).1 (fillB g90bp (fillT g90tp ls).2).1 k := by kernel_rfl
theorem g90Calls (m : Nat) : (g90h m).CallsOk Go.Proofs.Try.prog := (cok_cons (g107Ok m) cok_nil)
theorem g90l0Ok (m : Nat) (α : Type) (st : St) (k : Ex → St → Option α) (r : α) (h : (g90h m).loop 0 st k = some r) :
    ∃ e st', k e st' = some r ∧ CodeS Go.Proofs.Try.prog (.block 0 (.loop (bodyAt Go.Proofs.Try.f90 0))) st e st' :=
  loop_ok (tab := tab) (h := g90h m) (F := fun n ls k => g90l0K (fun a1651 k1879 a1649 a1650 => g90l0 (g107 m) a1651 k1879 n a1649 a1650) ls k) tabOk (g90Calls m) mixed (loopsOk_of _ (fun p hp => by rw [show loopsOf (bodyAt Go.Proofs.Try.f90 0) = [] by kernel_rfl] at hp; cases hp))
    (fun _ _ => rfl) (fun n ls k => g90l0Step (g107 m) (g90l0M m) (fun a1651 k1879 => g90l0 (g107 m) a1651 k1879 n) ls k) (n := m) h
theorem g90Fn (m : Nat) : FnOk Go.Proofs.Try.prog 90 g90tp g90bp (fun {α} => g90K (g90 (α := α) m)) :=
  fn_ok (tab := tab) (h := g90h m) (fn := Go.Proofs.Try.f90) (F := fun {α} => g90K (g90 (α := α) m)) tabOk (g90Calls m) mixed (by kernel_rfl) (by kernel_rfl) (fun c hc => by
    rw [bodyOf_some hc]
    exact loopsOk_of _ (fun p hp => by
    rw [show loopsOf (bodyOf Go.Proofs.Try.f90) = [(0, bodyAt Go.Proofs.Try.f90 0)] by kernel_rfl] at hp
    simp only [List.mem_cons, List.not_mem_nil, or_false] at hp
    rcases hp with rfl
    exact g90l0Ok m))
    (fun α ls k => g90Main (g107 m) (g90l0M m) ls k)
theorem g90Ok (m : Nat) : RowOk Go.Proofs.Try.prog 90 (fun {α} => rowK g90tp g90bp (g90K (g90 (α := α) m))) := row_of (g90Fn m)

/-! ### g46: impl.CommonWide -/
def g46b {α : Type} (G_g24 : {α : Type} → Bool → (List Int) → (Bool → Option α) → Option α) (G_g90 : {α : Type} → (List Int) → (List Int) → ((List Int) → Option α) → Option α) (G_g67 : {α : Type} → Bool → (List Int) → (Bool → Option α) → Option α)  (q1639 : Bool) (u1640 : List Int) (q1641 : Bool) (u1642 : List Int) (k1885 : Bool → (List Int) → Int → Option α) : Option α :=
  G_g24 q1639 u1640
    (fun b1643 =>
      cond (!b1643)
       (
        k1885 false [0, 0, 0, 0, 0, 0] (1 : Int))
       (
        G_g24 q1641 u1642
          (fun b1645 =>
            cond (!b1645)
             (
              k1885 false [0, 0, 0, 0, 0, 0] (1 : Int))
             (
              G_g90 u1640 u1642
                (fun l1883 =>
                  G_g67 false l1883
                    (fun b1884 =>
                      k1885 b1884 l1883 (0 : Int)))))))
def g46 {α : Type} (m : Nat) : Bool → (List Int) → Bool → (List Int) → (Bool → (List Int) → Int → Option α) → Option α :=
  g46b (g24 m) (g90 m) (g67 m)
def g46tp : List TP := [(.vl (.agg [(.one .bool), (.seq (.int .u32) 6)])), (.vl (.agg [(.one .bool), (.seq (.int .u32) 6)]))]
def g46bp : List BP := []
def g46K {α : Type} (G : Bool → (List Int) → Bool → (List Int) → (Bool → (List Int) → Int → Option α) → Option α) (ls : List Lf) (k : TV → List (List Seg) → List (List Seg) → Option α) : Option α :=
  G (lf ls 0).bool ((lf ls 1).lst (.int .u32)) (lf ls 2).bool ((lf ls 3).lst (.int .u32))
    (fun y0 y1 y2 => k (.tup [(.agg [(.one (.bool y0)), (.seq (.int .u32) 6 y1)]), (.sv (.int .i64 y2))]) [] [])
def g46hd (G_g24 : {α : Type} → Bool → (List Int) → (Bool → Option α) → Option α) (G_g90 : {α : Type} → (List Int) → (List Int) → ((List Int) → Option α) → Option α) (G_g67 : {α : Type} → Bool → (List Int) → (Bool → Option α) → Option α)  : Hd where
  call := fun f args Bs k => cond (Nat.beq f 24) (rowK g24tp g24bp (g24K G_g24) args Bs k) (cond (Nat.beq f 90) (rowK g90tp g90bp (g90K G_g90) args Bs k) (cond (Nat.beq f 67) (rowK g67tp g67bp (g67K G_g67) args Bs k) (none)))
  loop := fun id st k => none
  ro := fun f => []
def g46h (m : Nat) : Hd := g46hd (g24 m) (g90 m) (g67 m)
theorem g46Main (G_g24 : {α : Type} → Bool → (List Int) → (Bool → Option α) → Option α) (G_g90 : {α : Type} → (List Int) → (List Int) → ((List Int) → Option α) → Option α) (G_g67 : {α : Type} → Bool → (List Int) → (Bool → Option α) → Option α)  {α : Type} (ls : List Lf) (k : TV → List (List Seg) → List (List Seg) → Option α) :
    g46K (g46b G_g24 G_g90 G_g67) ls k = evFun tab (g46hd G_g24 G_g90 G_g67) Go.Proofs.Try.f46 (fillT g46tp ls).1 (fillB g46bp (fillT g46tp ls).2).1 k := by kernel_rfl
theorem g46Calls (m : Nat) : (g46h m).CallsOk Go.Proofs.Try.prog := (cok_cons (g24Ok m) (cok_cons (g90Ok m) (cok_cons (g67Ok m) cok_nil)))
theorem g46Fn (m : Nat) : FnOk Go.Proofs.Try.prog 46 g46tp g46bp (fun {α} => g46K (g46 (α := α) m)) :=
  fn_ok (tab := tab) (h := g46h m) (fn := Go.Proofs.Try.f46) (F := fun {α} => g46K (g46 (α := α) m)) tabOk (g46Calls m) mixed (by kernel_rfl) (by kernel_rfl) (fun c hc => by
    rw [bodyOf_some hc]
    exact loopsOk_of _ (fun p hp => by rw [show loopsOf (bodyOf Go.Proofs.Try.f46) = [] by kernel_rfl] at hp; cases hp))
    (fun α ls k => g46Main (g24 m) (g90 m) (g67 m) ls k)
theorem g46Ok (m : Nat) : RowOk Go.Proofs.Try.prog 46 (fun {α} => rowK g46tp g46bp (g46K (g46 (α := α) m))) := row_of (g46Fn m)

/-! ### g17: laws.FnExactCommonWide -/
def g17b {α : Type} (G_g23 : {α : Type} → Bool → (List Int) → ((List Int) → Option α) → Option α) (G_g60 : {α : Type} → Bool → (List Int) → Bool → (List Int) → (Bool → (List Int) → Int → Option α) → Option α) (G_g46 : {α : Type} → Bool → (List Int) → Bool → (List Int) → (Bool → (List Int) → Int → Option α) → Option α) (G_g27 : {α : Type} → Bool → (List Int) → Bool → (List Int) → (Bool → Option α) → Option α)  (q1535 : Bool) (u1536 : List Int) (q1537 : Bool) (u1538 : List Int) (k1892 : Bool → Option α) : Option α :=
  G_g23 q1535 u1536
    (fun l1539 =>
      G_g23 q1537 u1538
        (fun l1540 =>
          G_g60 q1535 l1539 q1537 l1540
            (fun b1634 l1635 x1636 =>
              G_g23 q1535 u1536
                (fun l1637 =>
                  G_g23 q1537 u1538
                    (fun l1638 =>
                      G_g46 q1535 l1637 q1537 l1638
                        (fun b1886 l1887 x1888 =>
                          G_g27 b1886 l1887 b1634 l1635
                            (fun b1889 =>
                              cond (!b1889)
                               (
                                k1892 false)
                               (
                                cond (x1888 != x1636)
                                 (
                                  k1892 false)
                                 (
                                  k1892 true)))))))))
def g17 {α : Type} (m : Nat) : Bool → (List Int) → Bool → (List Int) → (Bool → Option α) → Option α :=
  g17b (g23 m) (g60 m) (g46 m) (g27 m)
def g17tp : List TP := [(.vl (.agg [(.one .bool), (.seq (.int .u32) 6)])), (.vl (.agg [(.one .bool), (.seq (.int .u32) 6)]))]
def g17bp : List BP := []
def g17K {α : Type} (G : Bool → (List Int) → Bool → (List Int) → (Bool → Option α) → Option α) (ls : List Lf) (k : TV → List (List Seg) → List (List Seg) → Option α) : Option α :=
  G (lf ls 0).bool ((lf ls 1).lst (.int .u32)) (lf ls 2).bool ((lf ls 3).lst (.int .u32))
    (fun y0 => k (.vl (.sv (.bool y0))) [] [])
def g17hd (G_g23 : {α : Type} → Bool → (List Int) → ((List Int) → Option α) → Option α) (G_g60 : {α : Type} → Bool → (List Int) → Bool → (List Int) → (Bool → (List Int) → Int → Option α) → Option α) (G_g46 : {α : Type} → Bool → (List Int) → Bool → (List Int) → (Bool → (List Int) → Int → Option α) → Option α) (G_g27 : {α : Type} → Bool → (List Int) → Bool → (List Int) → (Bool → Option α) → Option α)  : Hd where
  call := fun f args Bs k => cond (Nat.beq f 23) (rowK g23tp g23bp (g23K G_g23) args Bs k) (cond (Nat.beq f 60) (rowK g60tp g60bp (g60K G_g60) args Bs k) (cond (Nat.beq f 46) (rowK g46tp g46bp (g46K G_g46) args Bs k) (cond (Nat.beq f 27) (rowK g27tp g27bp (g27K G_g27) args Bs k) (none))))
  loop := fun id st k => none
  ro := fun f => []
def g17h (m : Nat) : Hd := g17hd (g23 m) (g60 m) (g46 m) (g27 m)
theorem g17Main (G_g23 : {α : Type} → Bool → (List Int) → ((List Int) → Option α) → Option α) (G_g60 : {α : Type} → Bool → (List Int) → Bool → (List Int) → (Bool → (List Int) → Int → Option α) → Option α) (G_g46 : {α : Type} → Bool → (List Int) → Bool → (List Int) → (Bool → (List Int) → Int → Option α) → Option α) (G_g27 : {α : Type} → Bool → (List Int) → Bool → (List Int) → (Bool → Option α) → Option α)  {α : Type} (ls : List Lf) (k : TV → List (List Seg) → List (List Seg) → Option α) :
    g17K (g17b G_g23 G_g60 G_g46 G_g27) ls k = evFun tab (g17hd G_g23 G_g60 G_g46 G_g27) Go.Proofs.Try.f17 (fillT g17tp ls).1 (fillB g17bp (fillT g17tp ls).2).1 k := by kernel_rfl
theorem g17Calls (m : Nat) : (g17h m).CallsOk Go.Proofs.Try.prog := (cok_cons (g23Ok m) (cok_cons (g60Ok m) (cok_cons (g46Ok m) (cok_cons (g27Ok m) cok_nil))))
theorem g17Fn (m : Nat) : FnOk Go.Proofs.Try.prog 17 g17tp g17bp (fun {α} => g17K (g17 (α := α) m)) :=
  fn_ok (tab := tab) (h := g17h m) (fn := Go.Proofs.Try.f17) (F := fun {α} => g17K (g17 (α := α) m)) tabOk (g17Calls m) mixed (by kernel_rfl) (by kernel_rfl) (fun c hc => by
    rw [bodyOf_some hc]
    exact loopsOk_of _ (fun p hp => by rw [show loopsOf (bodyOf Go.Proofs.Try.f17) = [] by kernel_rfl] at hp; cases hp))
    (fun α ls k => g17Main (g23 m) (g60 m) (g46 m) (g27 m) ls k)
theorem g17Ok (m : Nat) : RowOk Go.Proofs.Try.prog 17 (fun {α} => rowK g17tp g17bp (g17K (g17 (α := α) m))) := row_of (g17Fn m)

/-! ### g77: spec.l01Div -/
def g77b {α : Type} (G_g102 : {α : Type} → (List Int) → (List Int) → ((List Int) → (List Int) → Option α) → Option α) (G_g101 : {α : Type} → (List Int) → (Bool → Option α) → Option α) (G_g112 : {α : Type} → (List Int) → (List Int) → ((List Int) → Bool → Option α) → Option α) (G_g113 : {α : Type} → (List Int) → (List Int) → ((List Int) → Option α) → Option α) (G_g71 : {α : Type} → Bool → (List Int) → (Bool → Option α) → Option α)  (q1909 : Bool) (u1910 : List Int) (q1911 : Bool) (u1912 : List Int) (k1930 : Bool → (List Int) → Bool → (List Int) → Option α) : Option α :=
  G_g102 u1910 u1912
    (fun l1913 l1914 =>
      cond (!(q1909 == q1911))
       (
        G_g101 l1914
          (fun b1916 =>
            cond (!b1916)
             (
              G_g112 l1913 [(1 : Int), 0, 0, 0, 0, 0]
                (fun l1918 b1919 =>
                  G_g113 u1912 l1914
                    (fun l1920 =>
                      G_g71 (!(q1909 == q1911)) l1918
                        (fun b1922 =>
                          G_g71 q1911 l1920
                            (fun b1923 =>
                              k1930 b1922 l1918 b1923 l1920)))))
             (
              G_g71 (!(q1909 == q1911)) l1913
                (fun b1925 =>
                  G_g71 q1911 l1914
                    (fun b1926 =>
                      k1930 b1925 l1913 b1926 l1914)))))
       (
        G_g71 (!(q1909 == q1911)) l1913
          (fun b1928 =>
            G_g71 q1911 l1914
              (fun b1929 =>
                k1930 b1928 l1913 b1929 l1914))))
def g77 {α : Type} (m : Nat) : Bool → (List Int) → Bool → (List Int) → (Bool → (List Int) → Bool → (List Int) → Option α) → Option α :=
  g77b (g102 m) (g101 m) (g112 m) (g113 m) (g71 m)
def g77tp : List TP := [(.vl (.agg [(.one .bool), (.seq (.int .u32) 6)])), (.vl (.agg [(.one .bool), (.seq (.int .u32) 6)]))]
def g77bp : List BP := []
def g77K {α : Type} (G : Bool → (List Int) → Bool → (List Int) → (Bool → (List Int) → Bool → (List Int) → Option α) → Option α) (ls : List Lf) (k : TV → List (List Seg) → List (List Seg) → Option α) : Option α :=
  G (lf ls 0).bool ((lf ls 1).lst (.int .u32)) (lf ls 2).bool ((lf ls 3).lst (.int .u32))
    (fun y0 y1 y2 y3 => k (.tup [(.agg [(.one (.bool y0)), (.seq (.int .u32) 6 y1)]), (.agg [(.one (.bool y2)), (.seq (.int .u32) 6 y3)])]) [] [])
def g77hd (G_g102 : {α : Type} → (List Int) → (List Int) → ((List Int) → (List Int) → Option α) → Option α) (G_g101 : {α : Type} → (List Int) → (Bool → Option α) → Option α) (G_g112 : {α : Type} → (List Int) → (List Int) → ((List Int) → Bool → Option α) → Option α) (G_g113 : {α : Type} → (List Int) → (List Int) → ((List Int) → Option α) → Option α) (G_g71 : {α : Type} → Bool → (List Int) → (Bool → Option α) → Option α)  : Hd where
  call := fun f args Bs k => cond (Nat.beq f 102) (rowK g102tp g102bp (g102K G_g102) args Bs k) (cond (Nat.beq f 101) (rowK g101tp g101bp (g101K G_g101) args Bs k) (cond (Nat.beq f 112) (rowK g112tp g112bp (g112K G_g112) args Bs k) (cond (Nat.beq f 113) (rowK g113tp g113bp (g113K G_g113) args Bs k) (cond (Nat.beq f 71) (rowK g71tp g71bp (g71K G_g71) args Bs k) (none)))))
  loop := fun id st k => none
  ro := fun f => cond (Nat.beq f 101) [0] (cond (Nat.beq f 102) [0, 1] (cond (Nat.beq f 112) [0, 1] (cond (Nat.beq f 113) [0, 1] ([]))))
def g77h (m : Nat) : Hd := g77hd (g102 m) (g101 m) (g112 m) (g113 m) (g71 m)
theorem g77Main (G_g102 : {α : Type} → (List Int) → (List Int) → ((List Int) → (List Int) → Option α) → Option α) (G_g101 : {α : Type} → (List Int) → (Bool → Option α) → Option α) (G_g112 : {α : Type} → (List Int) → (List Int) → ((List Int) → Bool → Option α) → Option α) (G_g113 : {α : Type} → (List Int) → (List Int) → ((List Int) → Option α) → Option α) (G_g71 : {α : Type} → Bool → (List Int) → (Bool → Option α) → Option α)  {α : Type} (ls : List Lf) (k : TV → List (List Seg) → List (List Seg) → Option α) :
    g77K (g77b G_g102 G_g101 G_g112 G_g113 G_g71) ls k = evFun tab (g77hd G_g102 G_g101 G_g112 G_g113 G_g71) Go.Proofs.Try.f77 (fillT g77tp ls).1 (fillB g77bp (fillT g77tp ls).2).1 k := by kernel_rfl
theorem g77Calls (m : Nat) : (g77h m).CallsOk Go.Proofs.Try.prog := (cok_cons (g102Ok m) (cok_cons (g101Ok m) (cok_cons (g112Ok m) (cok_cons (g113Ok m) (cok_cons (g71Ok m) cok_nil)))))
theorem g77Fn (m : Nat) : FnOk Go.Proofs.Try.prog 77 g77tp g77bp (fun {α} => g77K (g77 (α := α) m)) :=
  fn_ok (tab := tab) (h := g77h m) (fn := Go.Proofs.Try.f77) (F := fun {α} => g77K (g77 (α := α) m)) tabOk (g77Calls m) mixed (by kernel_rfl) (by kernel_rfl) (fun c hc => by
    rw [bodyOf_some hc]
    exact loopsOk_of _ (fun p hp => by rw [show loopsOf (bodyOf Go.Proofs.Try.f77) = [] by kernel_rfl] at hp; cases hp))
    (fun α ls k => g77Main (g102 m) (g101 m) (g112 m) (g113 m) (g71 m) ls k)
theorem g77Ok (m : Nat) : RowOk Go.Proofs.Try.prog 77 (fun {α} => rowK g77tp g77bp (g77K (g77 (α := α) m))) := row_of (g77Fn m)

/-! ### g33: spec.DivWides -/
def g33b {α : Type} (G_g64 : {α : Type} → Bool → (List Int) → (Bool → Option α) → Option α) (G_g76 : {α : Type} → Bool → (List Int) → (Int → Option α) → Option α) (G_g77 : {α : Type} → Bool → (List Int) → Bool → (List Int) → (Bool → (List Int) → Bool → (List Int) → Option α) → Option α)  (q1899 : Bool) (u1900 : List Int) (q1901 : Bool) (u1902 : List Int) (k1935 : Bool → (List Int) → Bool → (List Int) → Int → Option α) : Option α :=
  G_g64 q1899 u1900
    (fun b1903 =>
      cond (!b1903)
       (
        k1935 false [0, 0, 0, 0, 0, 0] false [0, 0, 0, 0, 0, 0] (1 : Int))
       (
        G_g64 q1901 u1902
          (fun b1905 =>
            cond (!b1905)
             (
              k1935 false [0, 0, 0, 0, 0, 0] false [0, 0, 0, 0, 0, 0] (1 : Int))
             (
              G_g76 q1901 u1902
                (fun x1907 =>
                  cond (x1907 == (0 : Int))
                   (
                    k1935 false [0, 0, 0, 0, 0, 0] false [0, 0, 0, 0, 0, 0] (4 : Int))
                   (
                    G_g77 q1899 u1900 q1901 u1902
                      (fun b1931 l1932 b1933 l1934 =>
                        k1935 b1931 l1932 b1933 l1934 (0 : Int))))))))
def g33 {α : Type} (m : Nat) : Bool → (List Int) → Bool → (List Int) → (Bool → (List Int) → Bool → (List Int) → Int → Option α) → Option α :=
  g33b (g64 m) (g76 m) (g77 m)
def g33tp : List TP := [(.vl (.agg [(.one .bool), (.seq (.int .u32) 6)])), (.vl (.agg [(.one .bool), (.seq (.int .u32) 6)]))]
def g33bp : List BP := []
def g33K {α : Type} (G : Bool → (List Int) → Bool → (List Int) → (Bool → (List Int) → Bool → (List Int) → Int → Option α) → Option α) (ls : List Lf) (k : TV → List (List Seg) → List (List Seg) → Option α) : Option α :=
  G (lf ls 0).bool ((lf ls 1).lst (.int .u32)) (lf ls 2).bool ((lf ls 3).lst (.int .u32))
    (fun y0 y1 y2 y3 y4 => k (.tup [(.agg [(.one (.bool y0)), (.seq (.int .u32) 6 y1)]), (.agg [(.one (.bool y2)), (.seq (.int .u32) 6 y3)]), (.sv (.int .i64 y4))]) [] [])
def g33hd (G_g64 : {α : Type} → Bool → (List Int) → (Bool → Option α) → Option α) (G_g76 : {α : Type} → Bool → (List Int) → (Int → Option α) → Option α) (G_g77 : {α : Type} → Bool → (List Int) → Bool → (List Int) → (Bool → (List Int) → Bool → (List Int) → Option α) → Option α)  : Hd where
  call := fun f args Bs k => cond (Nat.beq f 64) (rowK g64tp g64bp (g64K G_g64) args Bs k) (cond (Nat.beq f 76) (rowK g76tp g76bp (g76K G_g76) args Bs k) (cond (Nat.beq f 77) (rowK g77tp g77bp (g77K G_g77) args Bs k) (none)))
  loop := fun id st k => none
  ro := fun f => cond (Nat.beq f 64) [0] (cond (Nat.beq f 76) [0] ([]))
def g33h (m : Nat) : Hd := g33hd (g64 m) (g76 m) (g77 m)
theorem g33Main (G_g64 : {α : Type} → Bool → (List Int) → (Bool → Option α) → Option α) (G_g76 : {α : Type} → Bool → (List Int) → (Int → Option α) → Option α) (G_g77 : {α : Type} → Bool → (List Int) → Bool → (List Int) → (Bool → (List Int) → Bool → (List Int) → Option α) → Option α)  {α : Type} (ls : List Lf) (k : TV → List (List Seg) → List (List Seg) → Option α) :
    g33K (g33b G_g64 G_g76 G_g77) ls k = evFun tab (g33hd G_g64 G_g76 G_g77) Go.Proofs.Try.f33 (fillT g33tp ls).1 (fillB g33bp (fillT g33tp ls).2).1 k := by kernel_rfl
theorem g33Calls (m : Nat) : (g33h m).CallsOk Go.Proofs.Try.prog := (cok_cons (g64Ok m) (cok_cons (g76Ok m) (cok_cons (g77Ok m) cok_nil)))
theorem g33Fn (m : Nat) : FnOk Go.Proofs.Try.prog 33 g33tp g33bp (fun {α} => g33K (g33 (α := α) m)) :=
  fn_ok (tab := tab) (h := g33h m) (fn := Go.Proofs.Try.f33) (F := fun {α} => g33K (g33 (α := α) m)) tabOk (g33Calls m) mixed (by kernel_rfl) (by kernel_rfl) (fun c hc => by
    rw [bodyOf_some hc]
    exact loopsOk_of _ (fun p hp => by rw [show loopsOf (bodyOf Go.Proofs.Try.f33) = [] by kernel_rfl] at hp; cases hp))
    (fun α ls k => g33Main (g64 m) (g76 m) (g77 m) ls k)
theorem g33Ok (m : Nat) : RowOk Go.Proofs.Try.prog 33 (fun {α} => rowK g33tp g33bp (g33K (g33 (α := α) m))) := row_of (g33Fn m)

/-! ### g73: impl.divide -/
def g73b {α : Type} (G_g107 : {α : Type} → (List Int) → (List Int) → ((List Int) → (List Int) → Option α) → Option α) (G_g109 : {α : Type} → ((List Int) → Option α) → Option α) (G_g108 : {α : Type} → (List Int) → (List Int) → ((List Int) → Bool → Option α) → Option α) (G_g110 : {α : Type} → (List Int) → (List Int) → ((List Int) → Option α) → Option α) (G_g67 : {α : Type} → Bool → (List Int) → (Bool → Option α) → Option α)  (q1953 : Bool) (u1954 : List Int) (q1955 : Bool) (u1956 : List Int) (k1974 : Bool → (List Int) → Bool → (List Int) → Option α) : Option α :=
  G_g107 u1954 u1956
    (fun l1957 l1958 =>
      cond (!(q1953 == q1955))
       (
        cond (!(eqLI l1958 [0, 0, 0, 0, 0, 0]))
         (
          G_g109
            (fun l1961 =>
              G_g108 l1957 l1961
                (fun l1962 b1963 =>
                  G_g110 u1956 l1958
                    (fun l1964 =>
                      G_g67 (!(q1953 == q1955)) l1962
                        (fun b1966 =>
                          G_g67 q1955 l1964
                            (fun b1967 =>
                              k1974 b1966 l1962 b1967 l1964))))))
         (
          G_g67 (!(q1953 == q1955)) l1957
            (fun b1969 =>
              G_g67 q1955 l1958
                (fun b1970 =>
                  k1974 b1969 l1957 b1970 l1958))))
       (
        G_g67 (!(q1953 == q1955)) l1957
          (fun b1972 =>
            G_g67 q1955 l1958
              (fun b1973 =>
                k1974 b1972 l1957 b1973 l1958))))
def g73 {α : Type} (m : Nat) : Bool → (List Int) → Bool → (List Int) → (Bool → (List Int) → Bool → (List Int) → Option α) → Option α :=
  g73b (g107 m) (g109 m) (g108 m) (g110 m) (g67 m)
def g73tp : List TP := [(.vl (.agg [(.one .bool), (.seq (.int .u32) 6)])), (.vl (.agg [(.one .bool), (.seq (.int .u32) 6)]))]
def g73bp : List BP := []
def g73K {α : Type} (G : Bool → (List Int) → Bool → (List Int) → (Bool → (List Int) → Bool → (List Int) → Option α) → Option α) (ls : List Lf) (k : TV → List (List Seg) → List (List Seg) → Option α) : Option α :=
  G (lf ls 0).bool ((lf ls 1).lst (.int .u32)) (lf ls 2).bool ((lf ls 3).lst (.int .u32))
    (fun y0 y1 y2 y3 => k (.tup [(.agg [(.one (.bool y0)), (.seq (.int .u32) 6 y1)]), (.agg [(.one (.bool y2)), (.seq (.int .u32) 6 y3)])]) [] [])
def g73hd (G_g107 : {α : Type} → (List Int) → (List Int) → ((List Int) → (List Int) → Option α) → Option α) (G_g109 : {α : Type} → ((List Int) → Option α) → Option α) (G_g108 : {α : Type} → (List Int) → (List Int) → ((List Int) → Bool → Option α) → Option α) (G_g110 : {α : Type} → (List Int) → (List Int) → ((List Int) → Option α) → Option α) (G_g67 : {α : Type} → Bool → (List Int) → (Bool → Option α) → Option α)  : Hd where
  call := fun f args Bs k => cond (Nat.beq f 107) (rowK g107tp g107bp (g107K G_g107) args Bs k) (cond (Nat.beq f 109) (rowK g109tp g109bp (g109K G_g109) args Bs k) (cond (Nat.beq f 108) (rowK g108tp g108bp (g108K G_g108) args Bs k) (cond (Nat.beq f 110) (rowK g110tp g110bp (g110K G_g110) args Bs k) (cond (Nat.beq f 67) (rowK g67tp g67bp (g67K G_g67) args Bs k) (none)))))
  loop := fun id st k => none
  ro := fun f => []
def g73h (m : Nat) : Hd := g73hd (g107 m) (g109 m) (g108 m) (g110 m) (g67 m)
theorem g73Main (G_g107 : {α : Type} → (List Int) → (List Int) → ((List Int) → (List Int) → Option α) → Option α) (G_g109 : {α : Type} → ((List Int) → Option α) → Option α) (G_g108 : {α : Type} → (List Int) → (List Int) → ((List Int) → Bool → Option α) → Option α) (G_g110 : {α : Type} → (List Int) → (List Int) → ((List Int) → Option α) → Option α) (G_g67 : {α : Type} → Bool → (List Int) → (Bool → Option α) → Option α)  {α : Type} (ls : List Lf) (k : TV → List (List Seg) → List (List Seg) → Option α) :
    g73K (g73b G_g107 G_g109 G_g108 G_g110 G_g67) ls k = evFun tab (g73hd G_g107 G_g109 G_g108 G_g110 G_g67) Go.Proofs.Try.f73 (fillT g73tp ls).1 (fillB g73bp (fillT g73tp ls).2).1 k := by kernel_rfl
theorem g73Calls (m : Nat) : (g73h m).CallsOk Go.Proofs.Try.prog := (cok_cons (g107Ok m) (cok_cons (g109Ok m) (cok_cons (g108Ok m) (cok_cons (g110Ok m) (cok_cons (g67Ok m) cok_nil)))))
theorem g73Fn (m : Nat) : FnOk Go.Proofs.Try.prog 73 g73tp g73bp (fun {α} => g73K (g73 (α := α) m)) :=
  fn_ok (tab := tab) (h := g73h m) (fn := Go.Proofs.Try.f73) (F := fun {α} => g73K (g73 (α := α) m)) tabOk (g73Calls m) mixed (by kernel_rfl) (by kernel_rfl) (fun c hc => by
    rw [bodyOf_some hc]
    exact loopsOk_of _ (fun p hp => by rw [show loopsOf (bodyOf Go.Proofs.Try.f73) = [] by kernel_rfl] at hp; cases hp))
    (fun α ls k => g73Main (g107 m) (g109 m) (g108 m) (g110 m) (g67 m) ls k)
theorem g73Ok (m : Nat) : RowOk Go.Proofs.Try.prog 73 (fun {α} => rowK g73tp g73bp (g73K (g73 (α := α) m))) := row_of (g73Fn m)

/-! ### g31: impl.DivWides -/
def g31b {α : Type} (G_g24 : {α : Type} → Bool → (List Int) → (Bool → Option α) → Option α) (G_g72 : {α : Type} → Bool → (List Int) → (Int → Option α) → Option α) (G_g73 : {α : Type} → Bool → (List Int) → Bool → (List Int) → (Bool → (List Int) → Bool → (List Int) → Option α) → Option α)  (q1943 : Bool) (u1944 : List Int) (q1945 : Bool) (u1946 : List Int) (k1979 : Bool → (List Int) → Bool → (List Int) → Int → Option α) : Option α :=
  G_g24 q1943 u1944
    (fun b1947 =>
      cond (!b1947)
       (
        k1979 false [0, 0, 0, 0, 0, 0] false [0, 0, 0, 0, 0, 0] (1 : Int))
       (
        G_g24 q1945 u1946
          (fun b1949 =>
            cond (!b1949)
             (
              k1979 false [0, 0, 0, 0, 0, 0] false [0, 0, 0, 0, 0, 0] (1 : Int))
             (
              G_g72 q1945 u1946
                (fun x1951 =>
                  cond (x1951 == (0 : Int))
                   (
                    k1979 false [0, 0, 0, 0, 0, 0] false [0, 0, 0, 0, 0, 0] (4 : Int))
                   (
                    G_g73 q1943 u1944 q1945 u1946
                      (fun b1975 l1976 b1977 l1978 =>
                        k1979 b1975 l1976 b1977 l1978 (0 : Int))))))))
def g31 {α : Type} (m : Nat) : Bool → (List Int) → Bool → (List Int) → (Bool → (List Int) → Bool → (List Int) → Int → Option α) → Option α :=
  g31b (g24 m) (g72 m) (g73 m)
def g31tp : List TP := [(.vl (.agg [(.one .bool), (.seq (.int .u32) 6)])), (.vl (.agg [(.one .bool), (.seq (.int .u32) 6)]))]
def g31bp : List BP := []
def g31K {α : Type} (G : Bool → (List Int) → Bool → (List Int) → (Bool → (List Int) → Bool → (List Int) → Int → Option α) → Option α) (ls : List Lf) (k : TV → List (List Seg) → List (List Seg) → Option α) : Option α :=
  G (lf ls 0).bool ((lf ls 1).lst (.int .u32)) (lf ls 2).bool ((lf ls 3).lst (.int .u32))
    (fun y0 y1 y2 y3 y4 => k (.tup [(.agg [(.one (.bool y0)), (.seq (.int .u32) 6 y1)]), (.agg [(.one (.bool y2)), (.seq (.int .u32) 6 y3)]), (.sv (.int .i64 y4))]) [] [])
def g31hd (G_g24 : {α : Type} → Bool → (List Int) → (Bool → Option α) → Option α) (G_g72 : {α : Type} → Bool → (List Int) → (Int → Option α) → Option α) (G_g73 : {α : Type} → Bool → (List Int) → Bool → (List Int) → (Bool → (List Int) → Bool → (List Int) → Option α) → Option α)  : Hd where
  call := fun f args Bs k => cond (Nat.beq f 24) (rowK g24tp g24bp (g24K G_g24) args Bs k) (cond (Nat.beq f 72) (rowK g72tp g72bp (g72K G_g72) args Bs k) (cond (Nat.beq f 73) (rowK g73tp g73bp (g73K G_g73) args Bs k) (none)))
  loop := fun id st k => none
  ro := fun f => []
def g31h (m : Nat) : Hd := g31hd (g24 m) (g72 m) (g73 m)
theorem g31Main (G_g24 : {α : Type} → Bool → (List Int) → (Bool → Option α) → Option α) (G_g72 : {α : Type} → Bool → (List Int) → (Int → Option α) → Option α) (G_g73 : {α : Type} → Bool → (List Int) → Bool → (List Int) → (Bool → (List Int) → Bool → (List Int) → Option α) → Option α)  {α : Type} (ls : List Lf) (k : TV → List (List Seg) → List (List Seg) → Option α) :
    g31K (g31b G_g24 G_g72 G_g73) ls k = evFun tab (g31hd G_g24 G_g72 G_g73) Go.Proofs.Try.f31 (fillT g31tp ls).1 (fillB g31bp (fillT g31tp ls).2).1 k := by kernel_rfl
theorem g31Calls (m : Nat) : (g31h m).CallsOk Go.Proofs.Try.prog := (cok_cons (g24Ok m) (cok_cons (g72Ok m) (cok_cons (g73Ok m) cok_nil)))
theorem g31Fn (m : Nat) : FnOk Go.Proofs.Try.prog 31 g31tp g31bp (fun {α} => g31K (g31 (α := α) m)) :=
  fn_ok (tab := tab) (h := g31h m) (fn := Go.Proofs.Try.f31) (F := fun {α} => g31K (g31 (α := α) m)) tabOk (g31Calls m) mixed (by kernel_rfl) (by kernel_rfl) (fun c hc => by
    rw [bodyOf_some hc]
    exact loopsOk_of _ (fun p hp => by rw [show loopsOf (bodyOf Go.Proofs.Try.f31) = [] by kernel_rfl] at hp; cases hp))
    (fun α ls k => g31Main (g24 m) (g72 m) (g73 m) ls k)
theorem g31Ok (m : Nat) : RowOk Go.Proofs.Try.prog 31 (fun {α} => rowK g31tp g31bp (g31K (g31 (α := α) m))) := row_of (g31Fn m)

/-! ### g20: laws.FnExactDivWides -/
def g20b {α : Type} (G_g23 : {α : Type} → Bool → (List Int) → ((List Int) → Option α) → Option α) (G_g33 : {α : Type} → Bool → (List Int) → Bool → (List Int) → (Bool → (List Int) → Bool → (List Int) → Int → Option α) → Option α) (G_g31 : {α : Type} → Bool → (List Int) → Bool → (List Int) → (Bool → (List Int) → Bool → (List Int) → Int → Option α) → Option α) (G_g27 : {α : Type} → Bool → (List Int) → Bool → (List Int) → (Bool → Option α) → Option α)  (q1893 : Bool) (u1894 : List Int) (q1895 : Bool) (u1896 : List Int) (k1990 : Bool → Option α) : Option α :=
  G_g23 q1893 u1894
    (fun l1897 =>
      G_g23 q1895 u1896
        (fun l1898 =>
          G_g33 q1893 l1897 q1895 l1898
            (fun b1936 l1937 b1938 l1939 x1940 =>
              G_g23 q1893 u1894
                (fun l1941 =>
                  G_g23 q1895 u1896
                    (fun l1942 =>
                      G_g31 q1893 l1941 q1895 l1942
                        (fun b1980 l1981 b1982 l1983 x1984 =>
                          G_g27 b1980 l1981 b1936 l1937
                            (fun b1985 =>
                              cond (!b1985)
                               (
                                k1990 false)
                               (
                                G_g27 b1982 l1983 b1938 l1939
                                  (fun b1987 =>
                                    cond (!b1987)
                                     (
                                      k1990 false)
                                     (
                                      cond (x1984 != x1940)
                                       (
                                        k1990 false)
                                       (
                                        k1990 true)))))))))))
def g20 {α : Type} (m : Nat) : Bool → (List Int) → Bool → (List Int) → (Bool → Option α) → Option α :=
  g20b (g23 m) (g33 m) (g31 m) (g27 m)
def g20tp : List TP := [(.vl (.agg [(.one .bool), (.seq (.int .u32) 6)])), (.vl (.agg [(.one .bool), (.seq (.int .u32) 6)]))]
def g20bp : List BP := []
def g20K {α : Type} (G : Bool → (List Int) → Bool → (List Int) → (Bool → Option α) → Option α) (ls : List Lf) (k : TV → List (List Seg) → List (List Seg) → Option α) : Option α :=
  G (lf ls 0).bool ((lf ls 1).lst (.int .u32)) (lf ls 2).bool ((lf ls 3).lst (.int .u32))
    (fun y0 => k (.vl (.sv (.bool y0))) [] [])
def g20hd (G_g23 : {α : Type} → Bool → (List Int) → ((List Int) → Option α) → Option α) (G_g33 : {α : Type} → Bool → (List Int) → Bool → (List Int) → (Bool → (List Int) → Bool → (List Int) → Int → Option α) → Option α) (G_g31 : {α : Type} → Bool → (List Int) → Bool → (List Int) → (Bool → (List Int) → Bool → (List Int) → Int → Option α) → Option α) (G_g27 : {α : Type} → Bool → (List Int) → Bool → (List Int) → (Bool → Option α) → Option α)  : Hd where
  call := fun f args Bs k => cond (Nat.beq f 23) (rowK g23tp g23bp (g23K G_g23) args Bs k) (cond (Nat.beq f 33) (rowK g33tp g33bp (g33K G_g33) args Bs k) (cond (Nat.beq f 31) (rowK g31tp g31bp (g31K G_g31) args Bs k) (cond (Nat.beq f 27) (rowK g27tp g27bp (g27K G_g27) args Bs k) (none))))
  loop := fun id st k => none
  ro := fun f => []
def g20h (m : Nat) : Hd := g20hd (g23 m) (g33 m) (g31 m) (g27 m)
theorem g20Main (G_g23 : {α : Type} → Bool → (List Int) → ((List Int) → Option α) → Option α) (G_g33 : {α : Type} → Bool → (List Int) → Bool → (List Int) → (Bool → (List Int) → Bool → (List Int) → Int → Option α) → Option α) (G_g31 : {α : Type} → Bool → (List Int) → Bool → (List Int) → (Bool → (List Int) → Bool → (List Int) → Int → Option α) → Option α) (G_g27 : {α : Type} → Bool → (List Int) → Bool → (List Int) → (Bool → Option α) → Option α)  {α : Type} (ls : List Lf) (k : TV → List (List Seg) → List (List Seg) → Option α) :
    g20K (g20b G_g23 G_g33 G_g31 G_g27) ls k = evFun tab (g20hd G_g23 G_g33 G_g31 G_g27) Go.Proofs.Try.f20 (fillT g20tp ls).1 (fillB g20bp (fillT g20tp ls).2).1 k := by kernel_rfl
theorem g20Calls (m : Nat) : (g20h m).CallsOk Go.Proofs.Try.prog := (cok_cons (g23Ok m) (cok_cons (g33Ok m) (cok_cons (g31Ok m) (cok_cons (g27Ok m) cok_nil))))
theorem g20Fn (m : Nat) : FnOk Go.Proofs.Try.prog 20 g20tp g20bp (fun {α} => g20K (g20 (α := α) m)) :=
  fn_ok (tab := tab) (h := g20h m) (fn := Go.Proofs.Try.f20) (F := fun {α} => g20K (g20 (α := α) m)) tabOk (g20Calls m) mixed (by kernel_rfl) (by kernel_rfl) (fun c hc => by
    rw [bodyOf_some hc]
    exact loopsOk_of _ (fun p hp => by rw [show loopsOf (bodyOf Go.Proofs.Try.f20) = [] by kernel_rfl] at hp; cases hp))
    (fun α ls k => g20Main (g23 m) (g33 m) (g31 m) (g27 m) ls k)
theorem g20Ok (m : Nat) : RowOk Go.Proofs.Try.prog 20 (fun {α} => rowK g20tp g20bp (g20K (g20 (α := α) m))) := row_of (g20Fn m)

/-! ### g87: spec.l01DivNear -/
def g87b {α : Type} (G_g77 : {α : Type} → Bool → (List Int) → Bool → (List Int) → (Bool → (List Int) → Bool → (List Int) → Option α) → Option α) (G_g113 : {α : Type} → (List Int) → (List Int) → ((List Int) → Option α) → Option α) (G_g115 : {α : Type} → (List Int) → (List Int) → (Int → Option α) → Option α) (G_g66 : {α : Type} → Int → (Bool → (List Int) → Option α) → Option α) (G_g81 : {α : Type} → Bool → (List Int) → Bool → (List Int) → (Bool → (List Int) → Int → Option α) → Option α)  (q2007 : Bool) (u2008 : List Int) (q2009 : Bool) (u2010 : List Int) (k2023 : Bool → (List Int) → Option α) : Option α :=
  G_g77 q2007 u2008 q2009 u2010
    (fun b2011 l2012 b2013 l2014 =>
      G_g113 u2010 l2014
        (fun l2015 =>
          G_g115 l2014 l2015
            (fun x2016 =>
              cond (decide (x2016 ≥ (0 : Int)))
               (
                G_g66 (1 : Int)
                  (fun b2018 l2019 =>
                    G_g81 b2011 l2012 b2018 l2019
                      (fun b2020 l2021 x2022 =>
                        k2023 b2020 l2021)))
               (
                k2023 b2011 l2012))))
def g87 {α : Type} (m : Nat) : Bool → (List Int) → Bool → (List Int) → (Bool → (List Int) → Option α) → Option α :=
  g87b (g77 m) (g113 m) (g115 m) (g66 m) (g81 m)
def g87tp : List TP := [(.vl (.agg [(.one .bool), (.seq (.int .u32) 6)])), (.vl (.agg [(.one .bool), (.seq (.int .u32) 6)]))]
def g87bp : List BP := []
def g87K {α : Type} (G : Bool → (List Int) → Bool → (List Int) → (Bool → (List Int) → Option α) → Option α) (ls : List Lf) (k : TV → List (List Seg) → List (List Seg) → Option α) : Option α :=
  G (lf ls 0).bool ((lf ls 1).lst (.int .u32)) (lf ls 2).bool ((lf ls 3).lst (.int .u32))
    (fun y0 y1 => k (.vl (.agg [(.one (.bool y0)), (.seq (.int .u32) 6 y1)])) [] [])
def g87hd (G_g77 : {α : Type} → Bool → (List Int) → Bool → (List Int) → (Bool → (List Int) → Bool → (List Int) → Option α) → Option α) (G_g113 : {α : Type} → (List Int) → (List Int) → ((List Int) → Option α) → Option α) (G_g115 : {α : Type} → (List Int) → (List Int) → (Int → Option α) → Option α) (G_g66 : {α : Type} → Int → (Bool → (List Int) → Option α) → Option α) (G_g81 : {α : Type} → Bool → (List Int) → Bool → (List Int) → (Bool → (List Int) → Int → Option α) → Option α)  : Hd where
  call := fun f args Bs k => cond (Nat.beq f 77) (rowK g77tp g77bp (g77K G_g77) args Bs k) (cond (Nat.beq f 113) (rowK g113tp g113bp (g113K G_g113) args Bs k) (cond (Nat.beq f 115) (rowK g115tp g115bp (g115K G_g115) args Bs k) (cond (Nat.beq f 66) (rowK g66tp g66bp (g66K G_g66) args Bs k) (cond (Nat.beq f 81) (rowK g81tp g81bp (g81K G_g81) args Bs k) (none)))))
  loop := fun id st k => none
  ro := fun f => cond (Nat.beq f 113) [0, 1] (cond (Nat.beq f 115) [0, 1] ([]))
def g87h (m : Nat) : Hd := g87hd (g77 m) (g113 m) (g115 m) (g66 m) (g81 m)
theorem g87Main (G_g77 : {α : Type} → Bool → (List Int) → Bool → (List Int) → (Bool → (List Int) → Bool → (List Int) → Option α) → Option α) (G_g113 : {α : Type} → (List Int) → (List Int) → ((List Int) → Option α) → Option α) (G_g115 : {α : Type} → (List Int) → (List Int) → (Int → Option α) → Option α) (G_g66 : {α : Type} → Int → (Bool → (List Int) → Option α) → Option α) (G_g81 : {α : Type} → Bool → (List Int) → Bool → (List Int) → (Bool → (List Int) → Int → Option α) → Option α)  {α : Type} (ls : List Lf) (k : TV → List (List Seg) → List (List Seg) → Option α) :
    g87K (g87b G_g77 G_g113 G_g115 G_g66 G_g81) ls k = evFun tab (g87hd G_g77 G_g113 G_g115 G_g66 G_g81) Go.Proofs.Try.f87 (fillT g87tp ls).1 (fillB g87bp (fillT g87tp ls).2).1 k := by kernel_rfl
theorem g87Calls (m : Nat) : (g87h m).CallsOk Go.Proofs.Try.prog := (cok_cons (g77Ok m) (cok_cons (g113Ok m) (cok_cons (g115Ok m) (cok_cons (g66Ok m) (cok_cons (g81Ok m) cok_nil)))))
theorem g87Fn (m : Nat) : FnOk Go.Proofs.Try.prog 87 g87tp g87bp (fun {α} => g87K (g87 (α := α) m)) :=
  fn_ok (tab := tab) (h := g87h m) (fn := Go.Proofs.Try.f87) (F := fun {α} => g87K (g87 (α := α) m)) tabOk (g87Calls m) mixed (by kernel_rfl) (by kernel_rfl) (fun c hc => by
    rw [bodyOf_some hc]
    exact loopsOk_of _ (fun p hp => by rw [show loopsOf (bodyOf Go.Proofs.Try.f87) = [] by kernel_rfl] at hp; cases hp))
    (fun α ls k => g87Main (g77 m) (g113 m) (g115 m) (g66 m) (g81 m) ls k)
theorem g87Ok (m : Nat) : RowOk Go.Proofs.Try.prog 87 (fun {α} => rowK g87tp g87bp (g87K (g87 (α := α) m))) := row_of (g87Fn m)

/-! ### g43: spec.DivNear -/
def g43b {α : Type} (G_g64 : {α : Type} → Bool → (List Int) → (Bool → Option α) → Option α) (G_g76 : {α : Type} → Bool → (List Int) → (Int → Option α) → Option α) (G_g87 : {α : Type} → Bool → (List Int) → Bool → (List Int) → (Bool → (List Int) → Option α) → Option α)  (q1997 : Bool) (u1998 : List Int) (q1999 : Bool) (u2000 : List Int) (k2026 : Bool → (List Int) → Int → Option α) : Option α :=
  G_g64 q1997 u1998
    (fun b2001 =>
      cond (!b2001)
       (
        k2026 false [0, 0, 0, 0, 0, 0] (1 : Int))
       (
        G_g64 q1999 u2000
          (fun b2003 =>
            cond (!b2003)
             (
              k2026 false [0, 0, 0, 0, 0, 0] (1 : Int))
             (
              G_g76 q1999 u2000
                (fun x2005 =>
                  cond (x2005 == (0 : Int))
                   (
                    k2026 false [0, 0, 0, 0, 0, 0] (4 : Int))
                   (
                    G_g87 q1997 u1998 q1999 u2000
                      (fun b2024 l2025 =>
                        k2026 b2024 l2025 (0 : Int))))))))
def g43 {α : Type} (m : Nat) : Bool → (List Int) → Bool → (List Int) → (Bool → (List Int) → Int → Option α) → Option α :=
  g43b (g64 m) (g76 m) (g87 m)
def g43tp : List TP := [(.vl (.agg [(.one .bool), (.seq (.int .u32) 6)])), (.vl (.agg [(.one .bool), (.seq (.int .u32) 6)]))]
def g43bp : List BP := []
def g43K {α : Type} (G : Bool → (List Int) → Bool → (List Int) → (Bool → (List Int) → Int → Option α) → Option α) (ls : List Lf) (k : TV → List (List Seg) → List (List Seg) → Option α) : Option α :=
  G (lf ls 0).bool ((lf ls 1).lst (.int .u32)) (lf ls 2).bool ((lf ls 3).lst (.int .u32))
    (fun y0 y1 y2 => k (.tup [(.agg [(.one (.bool y0)), (.seq (.int .u32) 6 y1)]), (.sv (.int .i64 y2))]) [] [])
def g43hd (G_g64 : {α : Type} → Bool → (List Int) → (Bool → Option α) → Option α) (G_g76 : {α : Type} → Bool → (List Int) → (Int → Option α) → Option α) (G_g87 : {α : Type} → Bool → (List Int) → Bool → (List Int) → (Bool → (List Int) → Option α) → Option α)  : Hd where
  call := fun f args Bs k => cond (Nat.beq f 64) (rowK g64tp g64bp (g64K G_g64) args Bs k) (cond (Nat.beq f 76) (rowK g76tp g76bp (g76K G_g76) args Bs k) (cond (Nat.beq f 87) (rowK g87tp g87bp (g87K G_g87) args Bs k) (none)))
  loop := fun id st k => none
  ro := fun f => cond (Nat.beq f 64) [0] (cond (Nat.beq f 76) [0] ([]))
def g43h (m : Nat) : Hd := g43hd (g64 m) (g76 m) (g87 m)
theorem g43Main (G_g64 : {α : Type} → Bool → (List Int) → (Bool → Option α) → Option α) (G_g76 : {α : Type} → Bool → (List Int) → (Int → Option α) → Option α) (G_g87 : {α : Type} → Bool → (List Int) → Bool → (List Int) → (Bool → (List Int) → Option α) → Option α)  {α : Type} (ls : List Lf) (k : TV → List (List Seg) → List (List Seg) → Option α) :
    g43K (g43b G_g64 G_g76 G_g87) ls k = evFun tab (g43hd G_g64 G_g76 G_g87) Go.Proofs.Try.f43 (fillT g43tp ls).1 (fillB g43bp (fillT g43tp ls).2).1 k := by kernel_rfl
theorem g43Calls (m : Nat) : (g43h m).CallsOk Go.Proofs.Try.prog := (cok_cons (g64Ok m) (cok_cons (g76Ok m) (cok_cons (g87Ok m) cok_nil)))
theorem g43Fn (m : Nat) : FnOk Go.Proofs.Try.prog 43 g43tp g43bp (fun {α} => g43K (g43 (α := α) m)) :=
  fn_ok (tab := tab) (h := g43h m) (fn := Go.Proofs.Try.f43) (F := fun {α} => g43K (g43 (α := α) m)) tabOk (g43Calls m) mixed (by kernel_rfl) (by kernel_rfl) (fun c hc => by
    rw [bodyOf_some hc]
    exact loopsOk_of _ (fun p hp => by rw [show loopsOf (bodyOf Go.Proofs.Try.f43) = [] by kernel_rfl] at hp; cases hp))
    (fun α ls k => g43Main (g64 m) (g76 m) (g87 m) ls k)
theorem g43Ok (m : Nat) : RowOk Go.Proofs.Try.prog 43 (fun {α} => rowK g43tp g43bp (g43K (g43 (α := α) m))) := row_of (g43Fn m)

/-! ### g75: (*impl.calc).divideNear -/
def g75b {α : Type} (G_g73 : {α : Type} → Bool → (List Int) → Bool → (List Int) → (Bool → (List Int) → Bool → (List Int) → Option α) → Option α) (G_g110 : {α : Type} → (List Int) → (List Int) → ((List Int) → Option α) → Option α) (G_g111 : {α : Type} → (List Int) → (List Int) → (Int → Option α) → Option α) (G_g26 : {α : Type} → Int → (Bool → (List Int) → Option α) → Option α) (G_g79 : {α : Type} → Bool → (List Int) → Bool → (List Int) → Bool → (Bool → (List Int) → Bool → Option α) → Option α)  (q2042 : Bool) (u2043 : List Int) (q2044 : Bool) (u2045 : List Int) (q2046 : Bool) (k2059 : Bool → (List Int) → Bool → Option α) : Option α :=
  G_g73 q2042 u2043 q2044 u2045
    (fun b2047 l2048 b2049 l2050 =>
      G_g110 u2045 l2050
        (fun l2051 =>
          G_g111 l2050 l2051
            (fun x2052 =>
              cond (decide (x2052 < (0 : Int)))
               (
                k2059 b2047 l2048 q2046)
               (
                G_g26 (1 : Int)
                  (fun b2054 l2055 =>
                    G_g79 b2047 l2048 b2054 l2055 q2046
                      (fun b2056 l2057 b2058 =>
                        k2059 b2056 l2057 b2058))))))
def g75 {α : Type} (m : Nat) : Bool → (List Int) → Bool → (List Int) → Bool → (Bool → (List Int) → Bool → Option α) → Option α :=
  g75b (g73 m) (g110 m) (g111 m) (g26 m) (g79 m)
def g75tp : List TP := [(.vl (.sv (.ptr 0 0))), (.vl (.agg [(.one .bool), (.seq (.int .u32) 6)])), (.vl (.agg [(.one .bool), (.seq (.int .u32) 6)]))]
def g75bp : List BP := [(true, [(.one .bool)])]
def g75K {α : Type} (G : Bool → (List Int) → Bool → (List Int) → Bool → (Bool → (List Int) → Bool → Option α) → Option α) (ls : List Lf) (k : TV → List (List Seg) → List (List Seg) → Option α) : Option α :=
  G (lf ls 0).bool ((lf ls 1).lst (.int .u32)) (lf ls 2).bool ((lf ls 3).lst (.int .u32)) (lf ls 4).bool
    (fun y0 y1 y2 => k (.vl (.agg [(.one (.bool y0)), (.seq (.int .u32) 6 y1)])) [[(.one (.bool y2))]] [])
def g75hd (G_g73 : {α : Type} → Bool → (List Int) → Bool → (List Int) → (Bool → (List Int) → Bool → (List Int) → Option α) → Option α) (G_g110 : {α : Type} → (List Int) → (List Int) → ((List Int) → Option α) → Option α) (G_g111 : {α : Type} → (List Int) → (List Int) → (Int → Option α) → Option α) (G_g26 : {α : Type} → Int → (Bool → (List Int) → Option α) → Option α) (G_g79 : {α : Type} → Bool → (List Int) → Bool → (List Int) → Bool → (Bool → (List Int) → Bool → Option α) → Option α)  : Hd where
  call := fun f args Bs k => cond (Nat.beq f 73) (rowK g73tp g73bp (g73K G_g73) args Bs k) (cond (Nat.beq f 110) (rowK g110tp g110bp (g110K G_g110) args Bs k) (cond (Nat.beq f 111) (rowK g111tp g111bp (g111K G_g111) args Bs k) (cond (Nat.beq f 26) (rowK g26tp g26bp (g26K G_g26) args Bs k) (cond (Nat.beq f 79) (rowK g79tp g79bp (g79K G_g79) args Bs k) (none)))))
  loop := fun id st k => none
  ro := fun f => []
def g75h (m : Nat) : Hd := g75hd (g73 m) (g110 m) (g111 m) (g26 m) (g79 m)
theorem g75Main (G_g73 : {α : Type} → Bool → (List Int) → Bool → (List Int) → (Bool → (List Int) → Bool → (List Int) → Option α) → Option α) (G_g110 : {α : Type} → (List Int) → (List Int) → ((List Int) → Option α) → Option α) (G_g111 : {α : Type} → (List Int) → (List Int) → (Int → Option α) → Option α) (G_g26 : {α : Type} → Int → (Bool → (List Int) → Option α) → Option α) (G_g79 : {α : Type} → Bool → (List Int) → Bool → (List Int) → Bool → (Bool → (List Int) → Bool → Option α) → Option α)  {α : Type} (ls : List Lf) (k : TV → List (List Seg) → List (List Seg) → Option α) :
    g75K (g75b G_g73 G_g110 G_g111 G_g26 G_g79) ls k = evFun tab (g75hd G_g73 G_g110 G_g111 G_g26 G_g79) Go.Proofs.Try.f75 (fillT g75tp ls).1 (fillB g75bp (fillT g75tp ls).2).1 k := by kernel_rfl
theorem g75Calls (m : Nat) : (g75h m).CallsOk Go.Proofs.Try.prog := (cok_cons (g73Ok m) (cok_cons (g110Ok m) (cok_cons (g111Ok m) (cok_cons (g26Ok m) (cok_cons (g79Ok m) cok_nil)))))
theorem g75Fn (m : Nat) : FnOk Go.Proofs.Try.prog 75 g75tp g75bp (fun {α} => g75K (g75 (α := α) m)) :=
  fn_ok (tab := tab) (h := g75h m) (fn := Go.Proofs.Try.f75) (F := fun {α} => g75K (g75 (α := α) m)) tabOk (g75Calls m) mixed (by kernel_rfl) (by kernel_rfl) (fun c hc => by
    rw [bodyOf_some hc]
    exact loopsOk_of _ (fun p hp => by rw [show loopsOf (bodyOf Go.Proofs.Try.f75) = [] by kernel_rfl] at hp; cases hp))
    (fun α ls k => g75Main (g73 m) (g110 m) (g111 m) (g26 m) (g79 m) ls k)
theorem g75Ok (m : Nat) : RowOk Go.Proofs.Try.prog 75 (fun {α} => rowK g75tp g75bp (g75K (g75 (α := α) m))) := row_of (g75Fn m)

/-! ### g32: impl.DivNear -/
def g32b {α : Type} (G_g24 : {α : Type} → Bool → (List Int) → (Bool → Option α) → Option α) (G_g72 : {α : Type} → Bool → (List Int) → (Int → Option α) → Option α) (G_g75 : {α : Type} → Bool → (List Int) → Bool → (List Int) → Bool → (Bool → (List Int) → Bool → Option α) → Option α) (G_g74 : {α : Type} → Bool → (List Int) → Bool → (Bool → (List Int) → Int → Option α) → Option α)  (q2032 : Bool) (u2033 : List Int) (q2034 : Bool) (u2035 : List Int) (k2066 : Bool → (List Int) → Int → Option α) : Option α :=
  G_g24 q2032 u2033
    (fun b2036 =>
      cond (!b2036)
       (
        k2066 false [0, 0, 0, 0, 0, 0] (1 : Int))
       (
        G_g24 q2034 u2035
          (fun b2038 =>
            cond (!b2038)
             (
              k2066 false [0, 0, 0, 0, 0, 0] (1 : Int))
             (
              G_g72 q2034 u2035
                (fun x2040 =>
                  cond (x2040 == (0 : Int))
                   (
                    k2066 false [0, 0, 0, 0, 0, 0] (4 : Int))
                   (
                    G_g75 q2032 u2033 q2034 u2035 false
                      (fun b2060 l2061 b2062 =>
                        G_g74 b2060 l2061 b2062
                          (fun b2063 l2064 x2065 =>
                            k2066 b2063 l2064 x2065))))))))
def g32 {α : Type} (m : Nat) : Bool → (List Int) → Bool → (List Int) → (Bool → (List Int) → Int → Option α) → Option α :=
  g32b (g24 m) (g72 m) (g75 m) (g74 m)
def g32tp : List TP := [(.vl (.agg [(.one .bool), (.seq (.int .u32) 6)])), (.vl (.agg [(.one .bool), (.seq (.int .u32) 6)]))]
def g32bp : List BP := []
def g32K {α : Type} (G : Bool → (List Int) → Bool → (List Int) → (Bool → (List Int) → Int → Option α) → Option α) (ls : List Lf) (k : TV → List (List Seg) → List (List Seg) → Option α) : Option α :=
  G (lf ls 0).bool ((lf ls 1).lst (.int .u32)) (lf ls 2).bool ((lf ls 3).lst (.int .u32))
    (fun y0 y1 y2 => k (.tup [(.agg [(.one (.bool y0)), (.seq (.int .u32) 6 y1)]), (.sv (.int .i64 y2))]) [] [])
def g32hd (G_g24 : {α : Type} → Bool → (List Int) → (Bool → Option α) → Option α) (G_g72 : {α : Type} → Bool → (List Int) → (Int → Option α) → Option α) (G_g75 : {α : Type} → Bool → (List Int) → Bool → (List Int) → Bool → (Bool → (List Int) → Bool → Option α) → Option α) (G_g74 : {α : Type} → Bool → (List Int) → Bool → (Bool → (List Int) → Int → Option α) → Option α)  : Hd where
  call := fun f args Bs k => cond (Nat.beq f 24) (rowK g24tp g24bp (g24K G_g24) args Bs k) (cond (Nat.beq f 72) (rowK g72tp g72bp (g72K G_g72) args Bs k) (cond (Nat.beq f 75) (rowK g75tp g75bp (g75K G_g75) args Bs k) (cond (Nat.beq f 74) (rowK g74tp g74bp (g74K G_g74) args Bs k) (none))))
  loop := fun id st k => none
  ro := fun f => cond (Nat.beq f 74) [0] ([])
def g32h (m : Nat) : Hd := g32hd (g24 m) (g72 m) (g75 m) (g74 m)
theorem g32Main (G_g24 : {α : Type} → Bool → (List Int) → (Bool → Option α) → Option α) (G_g72 : {α : Type} → Bool → (List Int) → (Int → Option α) → Option α) (G_g75 : {α : Type} → Bool → (List Int) → Bool → (List Int) → Bool → (Bool → (List Int) → Bool → Option α) → Option α) (G_g74 : {α : Type} → Bool → (List Int) → Bool → (Bool → (List Int) → Int → Option α) → Option α)  {α : Type} (ls : List Lf) (k : TV → List (List Seg) → List (List Seg) → Option α) :
    g32K (g32b G_g24 G_g72 G_g75 G_g74) ls k = evFun tab (g32hd G_g24 G_g72 G_g75 G_g74) Go.Proofs.Try.f32 (fillT g32tp ls).1 (fillB g32bp (fillT g32tp ls).2).1 k := by kernel_rfl
theorem g32Calls (m : Nat) : (g32h m).CallsOk Go.Proofs.Try.prog := (cok_cons (g24Ok m) (cok_cons (g72Ok m) (cok_cons (g75Ok m) (cok_cons (g74Ok m) cok_nil))))
theorem g32Fn (m : Nat) : FnOk Go.Proofs.Try.prog 32 g32tp g32bp (fun {α} => g32K (g32 (α := α) m)) :=
  fn_ok (tab := tab) (h := g32h m) (fn := Go.Proofs.Try.f32) (F := fun {α} => g32K (g32 (α := α) m)) tabOk (g32Calls m) mixed (by kernel_rfl) (by kernel_rfl) (fun c hc => by
    rw [bodyOf_some hc]
    exact loopsOk_of _ (fun p hp => by rw [show loopsOf (bodyOf Go.Proofs.Try.f32) = [] by kernel_rfl] at hp; cases hp))
    (fun α ls k => g32Main (g24 m) (g72 m) (g75 m) (g74 m) ls k)
theorem g32Ok (m : Nat) : RowOk Go.Proofs.Try.prog 32 (fun {α} => rowK g32tp g32bp (g32K (g32 (α := α) m))) := row_of (g32Fn m)
end Go.Proofs.Ytcccndkeaichcaa.Sx
