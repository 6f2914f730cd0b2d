/- Functions. Printed by our own sx.py. -/
import Derived.Test.YtcccndkeaichcaaSxV1
namespace Go.Proofs.Ytcccndkeaichcaa.Sx
open Go
set_option linter.unusedVariables false
set_option maxRecDepth 100000
/-! ### g88: impl.rootOf -/
def g88l0b {α : Type} (G_g109 : {α : Type} → ((List Int) → Option α) → Option α) (G_g117 : {α : Type} → (List Int) → Int → ((List Int) → Option α) → Option α) (G_g108 : {α : Type} → (List Int) → (List Int) → ((List Int) → Bool → Option α) → Option α) (G_g114 : {α : Type} → (List Int) → (List Int) → ((List Int) → Bool → Option α) → Option α) (G_g111 : {α : Type} → (List Int) → (List Int) → (Int → Option α) → Option α)  (a1326 : List Int) (a1327 : List Int) (k1342 : (List Int) → Option α) (r1343 : Int → (List Int) → Option α) (v1325 : Int) (a1328 : List Int) : Option α :=
  cond (decide (v1325 ≥ (0 : Int)))
   (
    G_g109
      (fun l1330 =>
        G_g117 l1330 v1325
          (fun l1331 =>
            G_g108 a1328 l1331
              (fun l1332 b1333 =>
                G_g114 l1332 l1332
                  (fun l1334 b1335 =>
                    cond (!b1335)
                     (
                      G_g111 l1334 a1326
                        (fun x1337 =>
                          cond (decide (x1337 ≤ (0 : Int)))
                           (
                            r1343 (IntKind.wrap .i64 (v1325 - (1 : Int))) l1332)
                           (
                            r1343 (IntKind.wrap .i64 (v1325 - (1 : Int))) a1328)))
                     (
                      r1343 (IntKind.wrap .i64 (v1325 - (1 : Int))) a1328))))))
   (
    k1342 a1328)
def g88l0 {α : Type} (G_g109 : {α : Type} → ((List Int) → Option α) → Option α) (G_g117 : {α : Type} → (List Int) → Int → ((List Int) → Option α) → Option α) (G_g108 : {α : Type} → (List Int) → (List Int) → ((List Int) → Bool → Option α) → Option α) (G_g114 : {α : Type} → (List Int) → (List Int) → ((List Int) → Bool → Option α) → Option α) (G_g111 : {α : Type} → (List Int) → (List Int) → (Int → Option α) → Option α)  (a1326 : List Int) (a1327 : List Int) (k1342 : (List Int) → Option α) : Nat → Int → (List Int) → Option α
  | 0 => fun _ _ => none
  | m + 1 => fun v1325 a1328 => g88l0b G_g109 G_g117 G_g108 G_g114 G_g111 a1326 a1327 k1342 (g88l0 G_g109 G_g117 G_g108 G_g114 G_g111 a1326 a1327 k1342 m) v1325 a1328
def g88l0M {α : Type} (m : Nat) : (List Int) → (List Int) → ((List Int) → Option α) → Int → (List Int) → Option α :=
  fun a1326 a1327 k1342 v1325 a1328 => g88l0 (g109 m) (g117 m) (g108 m) (g114 m) (g111 m) a1326 a1327 k1342 m v1325 a1328
def g88l0D : LoopD := { n := 42, sl := [1, 2, 3, 4], bl := [1001, 1002, 1003], tp := [(.vl (.sv (.ptr 1001 0))), (.vl (.sv (.ptr 1002 0))), (.vl (.sv (.ptr 1003 0))), (.vl (.sv (.int .i64)))], bp := [(true, [(.seq (.int .u32) 6)]), (true, [(.seq (.int .u32) 6)]), (true, [(.seq (.int .u32) 6)])], xs := [(2, [2, 3], [1002, 1003])] }
def g88l0K {α : Type} (L : (List Int) → (List Int) → ((List Int) → Option α) → Int → (List Int) → Option α) (ls : List Lf) (k : Ex → St → Option α) : Option α :=
  L ((lf ls 1).lst (.int .u32)) ((lf ls 2).lst (.int .u32))
    (fun y1 => k .normal (mkSt 42 [2, 3] [(.vl (.sv (.ptr 1002 0))), (.vl (.sv (.ptr 1003 0)))] [1002, 1003] [(true, [(.seq (.int .u32) 6 ((lf ls 2).lst (.int .u32)))]), (true, [(.seq (.int .u32) 6 y1)])]))
    (lf ls 0).int ((lf ls 3).lst (.int .u32))
def g88b {α : Type} (G_g94 : {α : Type} → (List Int) → (Int → Option α) → Option α) (G_g109 : {α : Type} → ((List Int) → Option α) → Option α) (G_g117 : {α : Type} → (List Int) → Int → ((List Int) → Option α) → Option α) (G_g108 : {α : Type} → (List Int) → (List Int) → ((List Int) → Bool → Option α) → Option α) (G_g114 : {α : Type} → (List Int) → (List Int) → ((List Int) → Bool → Option α) → Option α) (G_g111 : {α : Type} → (List Int) → (List Int) → (Int → Option α) → Option α) (L_g88l0 : {α : Type} → (List Int) → (List Int) → ((List Int) → Option α) → Int → (List Int) → Option α) (u1321 : List Int) (k1345 : (List Int) → Option α) : Option α :=
  G_g94 u1321
    (fun x1322 =>
      L_g88l0 u1321 [0, 0, 0, 0, 0, 0]
        (fun l1344 =>
          k1345 l1344)
        (IntKind.wrap .i64 (Int.tdiv (IntKind.wrap .i64 (x1322 + (1 : Int))) (2 : Int))) [0, 0, 0, 0, 0, 0])
def g88 {α : Type} (m : Nat) : (List Int) → ((List Int) → Option α) → Option α :=
  g88b (g94 m) (g109 m) (g117 m) (g108 m) (g114 m) (g111 m) (g88l0M m)
def g88tp : List TP := [(.vl (.agg [(.seq (.int .u32) 6)]))]
def g88bp : List BP := []
def g88K {α : Type} (G : (List Int) → ((List Int) → Option α) → Option α) (ls : List Lf) (k : TV → List (List Seg) → List (List Seg) → Option α) : Option α :=
  G ((lf ls 0).lst (.int .u32))
    (fun y0 => k (.vl (.agg [(.seq (.int .u32) 6 y0)])) [] [])
def g88hd (G_g94 : {α : Type} → (List Int) → (Int → Option α) → Option α) (G_g109 : {α : Type} → ((List Int) → Option α) → Option α) (G_g117 : {α : Type} → (List Int) → Int → ((List Int) → Option α) → Option α) (G_g108 : {α : Type} → (List Int) → (List Int) → ((List Int) → Bool → Option α) → Option α) (G_g114 : {α : Type} → (List Int) → (List Int) → ((List Int) → Bool → Option α) → Option α) (G_g111 : {α : Type} → (List Int) → (List Int) → (Int → Option α) → Option α) (L_g88l0 : {α : Type} → (List Int) → (List Int) → ((List Int) → Option α) → Int → (List Int) → Option α) : Hd where
  call := fun f args Bs k => cond (Nat.beq f 94) (rowK g94tp g94bp (g94K G_g94) args Bs k) (cond (Nat.beq f 109) (rowK g109tp g109bp (g109K G_g109) args Bs k) (cond (Nat.beq f 117) (rowK g117tp g117bp (g117K G_g117) args Bs k) (cond (Nat.beq f 108) (rowK g108tp g108bp (g108K G_g108) args Bs k) (cond (Nat.beq f 114) (rowK g114tp g114bp (g114K G_g114) args Bs k) (cond (Nat.beq f 111) (rowK g111tp g111bp (g111K G_g111) args Bs k) (none))))))
  loop := fun id st k => cond (Nat.beq id 0) (loopH g88l0D (g88l0K L_g88l0) st k) (none)
  ro := fun f => []
def g88h (m : Nat) : Hd := g88hd (g94 m) (g109 m) (g117 m) (g108 m) (g114 m) (g111 m) (g88l0M m)
theorem g88l0Step (G_g94 : {α : Type} → (List Int) → (Int → Option α) → Option α) (G_g109 : {α : Type} → ((List Int) → Option α) → Option α) (G_g117 : {α : Type} → (List Int) → Int → ((List Int) → Option α) → Option α) (G_g108 : {α : Type} → (List Int) → (List Int) → ((List Int) → Bool → Option α) → Option α) (G_g114 : {α : Type} → (List Int) → (List Int) → ((List Int) → Bool → Option α) → Option α) (G_g111 : {α : Type} → (List Int) → (List Int) → (Int → Option α) → Option α) (L_g88l0 : {α : Type} → (List Int) → (List Int) → ((List Int) → Option α) → Int → (List Int) → Option α) {α : Type} (L : (List Int) → (List Int) → ((List Int) → Option α) → Int → (List Int) → Option α) (ls : List Lf) (k : Ex → St → Option α) :
    g88l0K (fun a1326 a1327 k1342 v1325 a1328 => g88l0b G_g109 G_g117 G_g108 G_g114 G_g111 a1326 a1327 k1342 (L a1326 a1327 k1342) v1325 a1328) ls k = ev tab (g88hd G_g94 G_g109 G_g117 G_g108 G_g114 G_g111 L_g88l0) (bodyAt Go.Proofs.Try.f88 0) (atHead g88l0D ls) (loopK g88l0D 0 (loopH g88l0D (g88l0K L)) k) := by kernel_rfl
theorem g88Main (G_g94 : {α : Type} → (List Int) → (Int → Option α) → Option α) (G_g109 : {α : Type} → ((List Int) → Option α) → Option α) (G_g117 : {α : Type} → (List Int) → Int → ((List Int) → Option α) → Option α) (G_g108 : {α : Type} → (List Int) → (List Int) → ((List Int) → Bool → Option α) → Option α) (G_g114 : {α : Type} → (List Int) → (List Int) → ((List Int) → Bool → Option α) → Option α) (G_g111 : {α : Type} → (List Int) → (List Int) → (Int → Option α) → Option α) (L_g88l0 : {α : Type} → (List Int) → (List Int) → ((List Int) → Option α) → Int → (List Int) → Option α) {α : Type} (ls : List Lf) (k : TV → List (List Seg) → List (List Seg) → Option α) :
    g88K (g88b G_g94 G_g109 G_g117 G_g108 G_g114 G_g111 L_g88l0) ls k = evFun tab (g88hd G_g94 G_g109 G_g117 G_g108 G_g114 G_g111 L_g88l0) Go.Proofs.Try.f88 (fillT g88tp ls).1 (fillB g88bp (fillT g88tp ls).2).1 k := by kernel_rfl
theorem g88Calls (m : Nat) : (g88h m).CallsOk Go.Proofs.Try.prog := (cok_cons (g94Ok m) (cok_cons (g109Ok m) (cok_cons (g117Ok m) (cok_cons (g108Ok m) (cok_cons (g114Ok m) (cok_cons (g111Ok m) cok_nil))))))
theorem g88l0Ok (m : Nat) (α : Type) (st : St) (k : Ex → St → Option α) (r : α) (h : (g88h m).loop 0 st k = some r) :
    ∃ e st', k e st' = some r ∧ CodeS Go.Proofs.Try.prog (.block 0 (.loop (bodyAt Go.Proofs.Try.f88 0))) st e st' :=
  loop_ok (tab := tab) (h := g88h m) (F := fun n ls k => g88l0K (fun a1326 a1327 k1342 v1325 a1328 => g88l0 (g109 m) (g117 m) (g108 m) (g114 m) (g111 m) a1326 a1327 k1342 n v1325 a1328) ls k) tabOk (g88Calls m) mixed (loopsOk_of _ (fun p hp => by rw [show loopsOf (bodyAt Go.Proofs.Try.f88 0) = [] by kernel_rfl] at hp; cases hp))
    (fun _ _ => rfl) (fun n ls k => g88l0Step (g94 m) (g109 m) (g117 m) (g108 m) (g114 m) (g111 m) (g88l0M m) (fun a1326 a1327 k1342 => g88l0 (g109 m) (g117 m) (g108 m) (g114 m) (g111 m) a1326 a1327 k1342 n) ls k) (n := m) h
theorem g88Fn (m : Nat) : FnOk Go.Proofs.Try.prog 88 g88tp g88bp (fun {α} => g88K (g88 (α := α) m)) :=
  fn_ok (tab := tab) (h := g88h m) (fn := Go.Proofs.Try.f88) (F := fun {α} => g88K (g88 (α := α) m)) tabOk (g88Calls m) mixed (by kernel_rfl) (by kernel_rfl) (fun c hc => by
    rw [bodyOf_some hc]
    exact loopsOk_of _ (fun p hp => by
    rw [show loopsOf (bodyOf Go.Proofs.Try.f88) = [(0, bodyAt Go.Proofs.Try.f88 0)] by kernel_rfl] at hp
    simp only [List.mem_cons, List.not_mem_nil, or_false] at hp
    rcases hp with rfl
    exact g88l0Ok m))
    (fun α ls k => g88Main (g94 m) (g109 m) (g117 m) (g108 m) (g114 m) (g111 m) (g88l0M m) ls k)
theorem g88Ok (m : Nat) : RowOk Go.Proofs.Try.prog 88 (fun {α} => rowK g88tp g88bp (g88K (g88 (α := α) m))) := row_of (g88Fn m)

/-! ### g44: impl.RootWide -/
def g44b {α : Type} (G_g24 : {α : Type} → Bool → (List Int) → (Bool → Option α) → Option α) (G_g88 : {α : Type} → (List Int) → ((List Int) → Option α) → Option α) (G_g67 : {α : Type} → Bool → (List Int) → (Bool → Option α) → Option α)  (q1317 : Bool) (u1318 : List Int) (k1348 : Bool → (List Int) → Int → Option α) : Option α :=
  G_g24 q1317 u1318
    (fun b1319 =>
      cond (!b1319)
       (
        k1348 false [0, 0, 0, 0, 0, 0] (1 : Int))
       (
        cond q1317
         (
          k1348 false [0, 0, 0, 0, 0, 0] (2 : Int))
         (
          G_g88 u1318
            (fun l1346 =>
              G_g67 false l1346
                (fun b1347 =>
                  k1348 b1347 l1346 (0 : Int))))))
def g44 {α : Type} (m : Nat) : Bool → (List Int) → (Bool → (List Int) → Int → Option α) → Option α :=
  g44b (g24 m) (g88 m) (g67 m)
def g44tp : List TP := [(.vl (.agg [(.one .bool), (.seq (.int .u32) 6)]))]
def g44bp : List BP := []
def g44K {α : Type} (G : Bool → (List Int) → (Bool → (List Int) → Int → Option α) → Option α) (ls : List Lf) (k : TV → List (List Seg) → List (List Seg) → Option α) : Option α :=
  G (lf ls 0).bool ((lf ls 1).lst (.int .u32))
    (fun y0 y1 y2 => k (.tup [(.agg [(.one (.bool y0)), (.seq (.int .u32) 6 y1)]), (.sv (.int .i64 y2))]) [] [])
def g44hd (G_g24 : {α : Type} → Bool → (List Int) → (Bool → Option α) → Option α) (G_g88 : {α : Type} → (List Int) → ((List Int) → Option α) → Option α) (G_g67 : {α : Type} → Bool → (List Int) → (Bool → Option α) → Option α)  : Hd where
  call := fun f args Bs k => cond (Nat.beq f 24) (rowK g24tp g24bp (g24K G_g24) args Bs k) (cond (Nat.beq f 88) (rowK g88tp g88bp (g88K G_g88) args Bs k) (cond (Nat.beq f 67) (rowK g67tp g67bp (g67K G_g67) args Bs k) (none)))
  loop := fun id st k => none
  ro := fun f => []
def g44h (m : Nat) : Hd := g44hd (g24 m) (g88 m) (g67 m)
theorem g44Main (G_g24 : {α : Type} → Bool → (List Int) → (Bool → Option α) → Option α) (G_g88 : {α : Type} → (List Int) → ((List Int) → Option α) → Option α) (G_g67 : {α : Type} → Bool → (List Int) → (Bool → Option α) → Option α)  {α : Type} (ls : List Lf) (k : TV → List (List Seg) → List (List Seg) → Option α) :
    g44K (g44b G_g24 G_g88 G_g67) ls k = evFun tab (g44hd G_g24 G_g88 G_g67) Go.Proofs.Try.f44 (fillT g44tp ls).1 (fillB g44bp (fillT g44tp ls).2).1 k := by kernel_rfl
theorem g44Calls (m : Nat) : (g44h m).CallsOk Go.Proofs.Try.prog := (cok_cons (g24Ok m) (cok_cons (g88Ok m) (cok_cons (g67Ok m) cok_nil)))
theorem g44Fn (m : Nat) : FnOk Go.Proofs.Try.prog 44 g44tp g44bp (fun {α} => g44K (g44 (α := α) m)) :=
  fn_ok (tab := tab) (h := g44h m) (fn := Go.Proofs.Try.f44) (F := fun {α} => g44K (g44 (α := α) m)) tabOk (g44Calls m) mixed (by kernel_rfl) (by kernel_rfl) (fun c hc => by
    rw [bodyOf_some hc]
    exact loopsOk_of _ (fun p hp => by rw [show loopsOf (bodyOf Go.Proofs.Try.f44) = [] by kernel_rfl] at hp; cases hp))
    (fun α ls k => g44Main (g24 m) (g88 m) (g67 m) ls k)
theorem g44Ok (m : Nat) : RowOk Go.Proofs.Try.prog 44 (fun {α} => rowK g44tp g44bp (g44K (g44 (α := α) m))) := row_of (g44Fn m)

/-! ### g19: laws.FnExactRootWide -/
def g19b {α : Type} (G_g23 : {α : Type} → Bool → (List Int) → ((List Int) → Option α) → Option α) (G_g63 : {α : Type} → Bool → (List Int) → (Bool → (List Int) → Int → Option α) → Option α) (G_g44 : {α : Type} → Bool → (List Int) → (Bool → (List Int) → Int → Option α) → Option α) (G_g27 : {α : Type} → Bool → (List Int) → Bool → (List Int) → (Bool → Option α) → Option α)  (q1264 : Bool) (u1265 : List Int) (k1355 : Bool → Option α) : Option α :=
  G_g23 q1264 u1265
    (fun l1266 =>
      G_g63 q1264 l1266
        (fun b1313 l1314 x1315 =>
          G_g23 q1264 u1265
            (fun l1316 =>
              G_g44 q1264 l1316
                (fun b1349 l1350 x1351 =>
                  G_g27 b1349 l1350 b1313 l1314
                    (fun b1352 =>
                      cond (!b1352)
                       (
                        k1355 false)
                       (
                        cond (x1351 != x1315)
                         (
                          k1355 false)
                         (
                          k1355 true)))))))
def g19 {α : Type} (m : Nat) : Bool → (List Int) → (Bool → Option α) → Option α :=
  g19b (g23 m) (g63 m) (g44 m) (g27 m)
def g19tp : List TP := [(.vl (.agg [(.one .bool), (.seq (.int .u32) 6)]))]
def g19bp : List BP := []
def g19K {α : Type} (G : Bool → (List Int) → (Bool → Option α) → Option α) (ls : List Lf) (k : TV → List (List Seg) → List (List Seg) → Option α) : Option α :=
  G (lf ls 0).bool ((lf ls 1).lst (.int .u32))
    (fun y0 => k (.vl (.sv (.bool y0))) [] [])
def g19hd (G_g23 : {α : Type} → Bool → (List Int) → ((List Int) → Option α) → Option α) (G_g63 : {α : Type} → Bool → (List Int) → (Bool → (List Int) → Int → Option α) → Option α) (G_g44 : {α : Type} → Bool → (List Int) → (Bool → (List Int) → Int → Option α) → Option α) (G_g27 : {α : Type} → Bool → (List Int) → Bool → (List Int) → (Bool → Option α) → Option α)  : Hd where
  call := fun f args Bs k => cond (Nat.beq f 23) (rowK g23tp g23bp (g23K G_g23) args Bs k) (cond (Nat.beq f 63) (rowK g63tp g63bp (g63K G_g63) args Bs k) (cond (Nat.beq f 44) (rowK g44tp g44bp (g44K G_g44) args Bs k) (cond (Nat.beq f 27) (rowK g27tp g27bp (g27K G_g27) args Bs k) (none))))
  loop := fun id st k => none
  ro := fun f => []
def g19h (m : Nat) : Hd := g19hd (g23 m) (g63 m) (g44 m) (g27 m)
theorem g19Main (G_g23 : {α : Type} → Bool → (List Int) → ((List Int) → Option α) → Option α) (G_g63 : {α : Type} → Bool → (List Int) → (Bool → (List Int) → Int → Option α) → Option α) (G_g44 : {α : Type} → Bool → (List Int) → (Bool → (List Int) → Int → Option α) → Option α) (G_g27 : {α : Type} → Bool → (List Int) → Bool → (List Int) → (Bool → Option α) → Option α)  {α : Type} (ls : List Lf) (k : TV → List (List Seg) → List (List Seg) → Option α) :
    g19K (g19b G_g23 G_g63 G_g44 G_g27) ls k = evFun tab (g19hd G_g23 G_g63 G_g44 G_g27) Go.Proofs.Try.f19 (fillT g19tp ls).1 (fillB g19bp (fillT g19tp ls).2).1 k := by kernel_rfl
theorem g19Calls (m : Nat) : (g19h m).CallsOk Go.Proofs.Try.prog := (cok_cons (g23Ok m) (cok_cons (g63Ok m) (cok_cons (g44Ok m) (cok_cons (g27Ok m) cok_nil))))
theorem g19Fn (m : Nat) : FnOk Go.Proofs.Try.prog 19 g19tp g19bp (fun {α} => g19K (g19 (α := α) m)) :=
  fn_ok (tab := tab) (h := g19h m) (fn := Go.Proofs.Try.f19) (F := fun {α} => g19K (g19 (α := α) m)) tabOk (g19Calls m) mixed (by kernel_rfl) (by kernel_rfl) (fun c hc => by
    rw [bodyOf_some hc]
    exact loopsOk_of _ (fun p hp => by rw [show loopsOf (bodyOf Go.Proofs.Try.f19) = [] by kernel_rfl] at hp; cases hp))
    (fun α ls k => g19Main (g23 m) (g63 m) (g44 m) (g27 m) ls k)
theorem g19Ok (m : Nat) : RowOk Go.Proofs.Try.prog 19 (fun {α} => rowK g19tp g19bp (g19K (g19 (α := α) m))) := row_of (g19Fn m)

/-! ### g61: spec.ReadWide -/
def g61l0b {α : Type}   (z1367 : ByteArray) (c1368 : Bool) (c1370 : Bool) (a1371 : List Int) (k1378 : (List Int) → Option α) (k1379 : Option α) (r1380 : Int → Option α) (v1369 : Int) : Option α :=
  cond (decide (v1369 < ((z1367.size : Nat) : Int)))
   (
    if 0 ≤ v1369 ∧ v1369 < z1367.size then
      cond (decide ((byteAt z1367 v1369.toNat) < (48 : Int)))
       (
        k1378 [0, 0, 0, 0, 0, 0])
       (
        if 0 ≤ v1369 ∧ v1369 < z1367.size then
          cond (decide ((byteAt z1367 v1369.toNat) > (57 : Int)))
           (
            k1378 [0, 0, 0, 0, 0, 0])
           (
            r1380 (IntKind.wrap .i64 (v1369 + (1 : Int))))
        else
          none)
    else
      none)
   (
    k1379)
def g61l0 {α : Type}   (z1367 : ByteArray) (c1368 : Bool) (c1370 : Bool) (a1371 : List Int) (k1378 : (List Int) → Option α) (k1379 : Option α) : Nat → Int → Option α
  | 0 => fun _ => none
  | m + 1 => fun v1369 => g61l0b z1367 c1368 c1370 a1371 k1378 k1379 (g61l0 z1367 c1368 c1370 a1371 k1378 k1379 m) v1369
def g61l0M {α : Type} (m : Nat) : ByteArray → Bool → Bool → (List Int) → ((List Int) → Option α) → (Option α) → Int → Option α :=
  fun z1367 c1368 c1370 a1371 k1378 k1379 v1369 => g61l0 z1367 c1368 c1370 a1371 k1378 k1379 m v1369
def g61l0D : LoopD := { n := 94, sl := [2, 4, 5, 6], bl := [1002], tp := [(.vl (.sv (.ptr 1002 0))), (.vl (.sv .str)), (.vl (.sv .bool)), (.vl (.sv (.int .i64)))], bp := [(true, [(.one .bool), (.seq (.int .u32) 6)])], xs := [(1, [2, 3], [1002]), (2, [2, 4, 5], [1002])] }
def g61l0K {α : Type} (L : ByteArray → Bool → Bool → (List Int) → ((List Int) → Option α) → (Option α) → Int → Option α) (ls : List Lf) (k : Ex → St → Option α) : Option α :=
  L (lf ls 0).str (lf ls 1).bool (lf ls 3).bool ((lf ls 4).lst (.int .u32))
    (fun y2 => k .ret (mkSt 94 [2, 3] [(.vl (.sv (.ptr 1002 0))), (.vl (.sv (.int .i64 (5 : Int))))] [1002] [(true, [(.one (.bool false)), (.seq (.int .u32) 6 y2)])]))
    (k .normal (mkSt 94 [2, 4, 5] [(.vl (.sv (.ptr 1002 0))), (.vl (.sv (.str (lf ls 0).str))), (.vl (.sv (.bool (lf ls 1).bool)))] [1002] [(true, [(.one (.bool (lf ls 3).bool)), (.seq (.int .u32) 6 ((lf ls 4).lst (.int .u32)))])]))
    (lf ls 2).int
def g61l2b {α : Type} (G_g66 : {α : Type} → Int → (Bool → (List Int) → Option α) → Option α) (G_g97 : {α : Type} → Bool → (List Int) → Bool → (List Int) → (Bool → (List Int) → Int → Option α) → Option α) (G_g81 : {α : Type} → Bool → (List Int) → Bool → (List Int) → (Bool → (List Int) → Int → Option α) → Option α)  (z1382 : ByteArray) (c1383 : Bool) (c1385 : Bool) (a1386 : List Int) (k1406 : Int → (List Int) → Option α) (k1407 : Bool → (List Int) → Option α) (r1408 : Int → Bool → (List Int) → Option α) (v1384 : Int) (c1387 : Bool) (a1388 : List Int) : Option α :=
  cond (decide (v1384 < ((z1382.size : Nat) : Int)))
   (
    G_g66 (10 : Int)
      (fun b1390 l1391 =>
        G_g97 c1387 a1388 b1390 l1391
          (fun b1392 l1393 x1394 =>
            cond (x1394 != (0 : Int))
             (
              k1406 x1394 [0, 0, 0, 0, 0, 0])
             (
              if 0 ≤ v1384 ∧ v1384 < z1382.size then
                G_g66 (IntKind.wrap .i64 (IntKind.wrap .u8 ((byteAt z1382 v1384.toNat) - (48 : Int))))
                  (fun b1399 l1400 =>
                    G_g81 b1392 l1393 b1399 l1400
                      (fun b1401 l1402 x1403 =>
                        cond (x1403 != (0 : Int))
                         (
                          k1406 x1403 [0, 0, 0, 0, 0, 0])
                         (
                          r1408 (IntKind.wrap .i64 (v1384 + (1 : Int))) b1401 l1402)))
              else
                none))))
   (
    k1407 c1387 a1388)
def g61l2 {α : Type} (G_g66 : {α : Type} → Int → (Bool → (List Int) → Option α) → Option α) (G_g97 : {α : Type} → Bool → (List Int) → Bool → (List Int) → (Bool → (List Int) → Int → Option α) → Option α) (G_g81 : {α : Type} → Bool → (List Int) → Bool → (List Int) → (Bool → (List Int) → Int → Option α) → Option α)  (z1382 : ByteArray) (c1383 : Bool) (c1385 : Bool) (a1386 : List Int) (k1406 : Int → (List Int) → Option α) (k1407 : Bool → (List Int) → Option α) : Nat → Int → Bool → (List Int) → Option α
  | 0 => fun _ _ _ => none
  | m + 1 => fun v1384 c1387 a1388 => g61l2b G_g66 G_g97 G_g81 z1382 c1383 c1385 a1386 k1406 k1407 (g61l2 G_g66 G_g97 G_g81 z1382 c1383 c1385 a1386 k1406 k1407 m) v1384 c1387 a1388
def g61l2M {α : Type} (m : Nat) : ByteArray → Bool → Bool → (List Int) → (Int → (List Int) → Option α) → (Bool → (List Int) → Option α) → Int → Bool → (List Int) → Option α :=
  fun z1382 c1383 c1385 a1386 k1406 k1407 v1384 c1387 a1388 => g61l2 (g66 m) (g97 m) (g81 m) z1382 c1383 c1385 a1386 k1406 k1407 m v1384 c1387 a1388
def g61l2D : LoopD := { n := 94, sl := [2, 4, 5, 7, 8], bl := [1002, 1007], tp := [(.vl (.sv (.ptr 1002 0))), (.vl (.sv .str)), (.vl (.sv .bool)), (.vl (.sv (.ptr 1007 0))), (.vl (.sv (.int .i64)))], bp := [(true, [(.one .bool), (.seq (.int .u32) 6)]), (true, [(.one .bool), (.seq (.int .u32) 6)])], xs := [(1, [2, 3], [1002]), (4, [2, 5, 7], [1002, 1007])] }
def g61l2K {α : Type} (L : ByteArray → Bool → Bool → (List Int) → (Int → (List Int) → Option α) → (Bool → (List Int) → Option α) → Int → Bool → (List Int) → Option α) (ls : List Lf) (k : Ex → St → Option α) : Option α :=
  L (lf ls 0).str (lf ls 1).bool (lf ls 3).bool ((lf ls 4).lst (.int .u32))
    (fun y0 y2 => k .ret (mkSt 94 [2, 3] [(.vl (.sv (.ptr 1002 0))), (.vl (.sv (.int .i64 y0)))] [1002] [(true, [(.one (.bool false)), (.seq (.int .u32) 6 y2)])]))
    (fun y3 y4 => k .normal (mkSt 94 [2, 5, 7] [(.vl (.sv (.ptr 1002 0))), (.vl (.sv (.bool (lf ls 1).bool))), (.vl (.sv (.ptr 1007 0)))] [1002, 1007] [(true, [(.one (.bool (lf ls 3).bool)), (.seq (.int .u32) 6 ((lf ls 4).lst (.int .u32)))]), (true, [(.one (.bool y3)), (.seq (.int .u32) 6 y4)])]))
    (lf ls 2).int (lf ls 5).bool ((lf ls 6).lst (.int .u32))
def g61b {α : Type} (G_g66 : {α : Type} → Int → (Bool → (List Int) → Option α) → Option α) (G_g97 : {α : Type} → Bool → (List Int) → Bool → (List Int) → (Bool → (List Int) → Int → Option α) → Option α) (G_g81 : {α : Type} → Bool → (List Int) → Bool → (List Int) → (Bool → (List Int) → Int → Option α) → Option α) (G_g71 : {α : Type} → Bool → (List Int) → (Bool → Option α) → Option α) (L_g61l0 : {α : Type} → ByteArray → Bool → Bool → (List Int) → ((List Int) → Option α) → (Option α) → Int → Option α) (L_g61l2 : {α : Type} → ByteArray → Bool → Bool → (List Int) → (Int → (List Int) → Option α) → (Bool → (List Int) → Option α) → Int → Bool → (List Int) → Option α) (z1358 : ByteArray) (k1452 : Bool → (List Int) → Int → Option α) : Option α :=
  cond (!bytesEq z1358 (⟨#[]⟩ : ByteArray))
   (
    if 0 ≤ (0 : Int) ∧ (0 : Int) < z1358.size then
      let b1361 : Bool := (byteAt z1358 (0 : Int).toNat) == (45 : Int)
      cond b1361
       (
        if 0 ≤ (1 : Int) ∧ (1 : Int) ≤ ((z1358.size : Nat) : Int) ∧ ((z1358.size : Nat) : Int) ≤ ((z1358.size : Nat) : Int) then
          let s1362 : ByteArray := ByteArray.extract z1358 1 (Int.toNat ((z1358.size : Nat) : Int))
          cond (bytesEq s1362 (⟨#[]⟩ : ByteArray))
           (
            k1452 false [0, 0, 0, 0, 0, 0] (5 : Int))
           (
            if 0 ≤ (0 : Int) ∧ (0 : Int) < s1362.size then
              cond ((byteAt s1362 (0 : Int).toNat) == (48 : Int))
               (
                cond (decide (((s1362.size : Nat) : Int) > (1 : Int)))
                 (
                  k1452 false [0, 0, 0, 0, 0, 0] (5 : Int))
                 (
                  cond b1361
                   (
                    k1452 false [0, 0, 0, 0, 0, 0] (5 : Int))
                   (
                    L_g61l0 s1362 b1361 false [0, 0, 0, 0, 0, 0]
                      (fun l1381 =>
                        k1452 false l1381 (5 : Int))
                      (
                        L_g61l2 s1362 b1361 false [0, 0, 0, 0, 0, 0]
                          (fun x1409 l1410 =>
                            k1452 false l1410 x1409)
                          (fun b1411 l1412 =>
                            G_g71 b1361 l1412
                              (fun b1413 =>
                                k1452 b1413 l1412 (0 : Int)))
                          (0 : Int) false [0, 0, 0, 0, 0, 0])
                      (0 : Int))))
               (
                L_g61l0 s1362 b1361 false [0, 0, 0, 0, 0, 0]
                  (fun l1414 =>
                    k1452 false l1414 (5 : Int))
                  (
                    L_g61l2 s1362 b1361 false [0, 0, 0, 0, 0, 0]
                      (fun x1415 l1416 =>
                        k1452 false l1416 x1415)
                      (fun b1417 l1418 =>
                        G_g71 b1361 l1418
                          (fun b1419 =>
                            k1452 b1419 l1418 (0 : Int)))
                      (0 : Int) false [0, 0, 0, 0, 0, 0])
                  (0 : Int))
            else
              none)
        else
          none)
       (
        cond (bytesEq z1358 (⟨#[]⟩ : ByteArray))
         (
          k1452 false [0, 0, 0, 0, 0, 0] (5 : Int))
         (
          if 0 ≤ (0 : Int) ∧ (0 : Int) < z1358.size then
            cond ((byteAt z1358 (0 : Int).toNat) == (48 : Int))
             (
              cond (decide (((z1358.size : Nat) : Int) > (1 : Int)))
               (
                k1452 false [0, 0, 0, 0, 0, 0] (5 : Int))
               (
                cond b1361
                 (
                  k1452 false [0, 0, 0, 0, 0, 0] (5 : Int))
                 (
                  L_g61l0 z1358 b1361 false [0, 0, 0, 0, 0, 0]
                    (fun l1424 =>
                      k1452 false l1424 (5 : Int))
                    (
                      L_g61l2 z1358 b1361 false [0, 0, 0, 0, 0, 0]
                        (fun x1425 l1426 =>
                          k1452 false l1426 x1425)
                        (fun b1427 l1428 =>
                          G_g71 b1361 l1428
                            (fun b1429 =>
                              k1452 b1429 l1428 (0 : Int)))
                        (0 : Int) false [0, 0, 0, 0, 0, 0])
                    (0 : Int))))
             (
              L_g61l0 z1358 b1361 false [0, 0, 0, 0, 0, 0]
                (fun l1430 =>
                  k1452 false l1430 (5 : Int))
                (
                  L_g61l2 z1358 b1361 false [0, 0, 0, 0, 0, 0]
                    (fun x1431 l1432 =>
                      k1452 false l1432 x1431)
                    (fun b1433 l1434 =>
                      G_g71 b1361 l1434
                        (fun b1435 =>
                          k1452 b1435 l1434 (0 : Int)))
                    (0 : Int) false [0, 0, 0, 0, 0, 0])
                (0 : Int))
          else
            none))
    else
      none)
   (
    cond (bytesEq z1358 (⟨#[]⟩ : ByteArray))
     (
      k1452 false [0, 0, 0, 0, 0, 0] (5 : Int))
     (
      if 0 ≤ (0 : Int) ∧ (0 : Int) < z1358.size then
        cond ((byteAt z1358 (0 : Int).toNat) == (48 : Int))
         (
          cond (decide (((z1358.size : Nat) : Int) > (1 : Int)))
           (
            k1452 false [0, 0, 0, 0, 0, 0] (5 : Int))
           (
            L_g61l0 z1358 false false [0, 0, 0, 0, 0, 0]
              (fun l1440 =>
                k1452 false l1440 (5 : Int))
              (
                L_g61l2 z1358 false false [0, 0, 0, 0, 0, 0]
                  (fun x1441 l1442 =>
                    k1452 false l1442 x1441)
                  (fun b1443 l1444 =>
                    G_g71 false l1444
                      (fun b1445 =>
                        k1452 b1445 l1444 (0 : Int)))
                  (0 : Int) false [0, 0, 0, 0, 0, 0])
              (0 : Int)))
         (
          L_g61l0 z1358 false false [0, 0, 0, 0, 0, 0]
            (fun l1446 =>
              k1452 false l1446 (5 : Int))
            (
              L_g61l2 z1358 false false [0, 0, 0, 0, 0, 0]
                (fun x1447 l1448 =>
                  k1452 false l1448 x1447)
                (fun b1449 l1450 =>
                  G_g71 false l1450
                    (fun b1451 =>
                      k1452 b1451 l1450 (0 : Int)))
                (0 : Int) false [0, 0, 0, 0, 0, 0])
            (0 : Int))
      else
        none))
def g61 {α : Type} (m : Nat) : ByteArray → (Bool → (List Int) → Int → Option α) → Option α :=
  g61b (g66 m) (g97 m) (g81 m) (g71 m) (g61l0M m) (g61l2M m)
def g61tp : List TP := [(.vl (.sv .str))]
def g61bp : List BP := []
def g61K {α : Type} (G : ByteArray → (Bool → (List Int) → Int → Option α) → Option α) (ls : List Lf) (k : TV → List (List Seg) → List (List Seg) → Option α) : Option α :=
  G (lf ls 0).str
    (fun y0 y1 y2 => k (.tup [(.agg [(.one (.bool y0)), (.seq (.int .u32) 6 y1)]), (.sv (.int .i64 y2))]) [] [])
def g61hd (G_g66 : {α : Type} → Int → (Bool → (List Int) → Option α) → Option α) (G_g97 : {α : Type} → Bool → (List Int) → Bool → (List Int) → (Bool → (List Int) → Int → Option α) → Option α) (G_g81 : {α : Type} → Bool → (List Int) → Bool → (List Int) → (Bool → (List Int) → Int → Option α) → Option α) (G_g71 : {α : Type} → Bool → (List Int) → (Bool → Option α) → Option α) (L_g61l0 : {α : Type} → ByteArray → Bool → Bool → (List Int) → ((List Int) → Option α) → (Option α) → Int → Option α) (L_g61l2 : {α : Type} → ByteArray → Bool → Bool → (List Int) → (Int → (List Int) → Option α) → (Bool → (List Int) → Option α) → Int → Bool → (List Int) → Option α) : Hd where
  call := fun f args Bs k => cond (Nat.beq f 66) (rowK g66tp g66bp (g66K G_g66) args Bs k) (cond (Nat.beq f 97) (rowK g97tp g97bp (g97K G_g97) args Bs k) (cond (Nat.beq f 81) (rowK g81tp g81bp (g81K G_g81) args Bs k) (cond (Nat.beq f 71) (rowK g71tp g71bp (g71K G_g71) args Bs k) (none))))
  loop := fun id st k => cond (Nat.beq id 0) (loopH g61l0D (g61l0K L_g61l0) st k) (cond (Nat.beq id 2) (loopH g61l2D (g61l2K L_g61l2) st k) (none))
  ro := fun f => []
def g61h (m : Nat) : Hd := g61hd (g66 m) (g97 m) (g81 m) (g71 m) (g61l0M m) (g61l2M m)
theorem g61l0Step (G_g66 : {α : Type} → Int → (Bool → (List Int) → Option α) → Option α) (G_g97 : {α : Type} → Bool → (List Int) → Bool → (List Int) → (Bool → (List Int) → Int → Option α) → Option α) (G_g81 : {α : Type} → Bool → (List Int) → Bool → (List Int) → (Bool → (List Int) → Int → Option α) → Option α) (G_g71 : {α : Type} → Bool → (List Int) → (Bool → Option α) → Option α) (L_g61l0 : {α : Type} → ByteArray → Bool → Bool → (List Int) → ((List Int) → Option α) → (Option α) → Int → Option α) (L_g61l2 : {α : Type} → ByteArray → Bool → Bool → (List Int) → (Int → (List Int) → Option α) → (Bool → (List Int) → Option α) → Int → Bool → (List Int) → Option α) {α : Type} (L : ByteArray → Bool → Bool → (List Int) → ((List Int) → Option α) → (Option α) → Int → Option α) (ls : List Lf) (k : Ex → St → Option α) :
    g61l0K (fun z1367 c1368 c1370 a1371 k1378 k1379 v1369 => g61l0b z1367 c1368 c1370 a1371 k1378 k1379 (L z1367 c1368 c1370 a1371 k1378 k1379) v1369) ls k = ev tab (g61hd G_g66 G_g97 G_g81 G_g71 L_g61l0 L_g61l2) (bodyAt Go.Proofs.Try.f61 0) (atHead g61l0D ls) (loopK g61l0D 0 (loopH g61l0D (g61l0K L)) k) := by kernel_rfl
theorem g61l2Step (G_g66 : {α : Type} → Int → (Bool → (List Int) → Option α) → Option α) (G_g97 : {α : Type} → Bool → (List Int) → Bool → (List Int) → (Bool → (List Int) → Int → Option α) → Option α) (G_g81 : {α : Type} → Bool → (List Int) → Bool → (List Int) → (Bool → (List Int) → Int → Option α) → Option α) (G_g71 : {α : Type} → Bool → (List Int) → (Bool → Option α) → Option α) (L_g61l0 : {α : Type} → ByteArray → Bool → Bool → (List Int) → ((List Int) → Option α) → (Option α) → Int → Option α) (L_g61l2 : {α : Type} → ByteArray → Bool → Bool → (List Int) → (Int → (List Int) → Option α) → (Bool → (List Int) → Option α) → Int → Bool → (List Int) → Option α) {α : Type} (L : ByteArray → Bool → Bool → (List Int) → (Int → (List Int) → Option α) → (Bool → (List Int) → Option α) → Int → Bool → (List Int) → Option α) (ls : List Lf) (k : Ex → St → Option α) :
    g61l2K (fun z1382 c1383 c1385 a1386 k1406 k1407 v1384 c1387 a1388 => g61l2b G_g66 G_g97 G_g81 z1382 c1383 c1385 a1386 k1406 k1407 (L z1382 c1383 c1385 a1386 k1406 k1407) v1384 c1387 a1388) ls k = ev tab (g61hd G_g66 G_g97 G_g81 G_g71 L_g61l0 L_g61l2) (bodyAt Go.Proofs.Try.f61 2) (atHead g61l2D ls) (loopK g61l2D 2 (loopH g61l2D (g61l2K L)) k) := by kernel_rfl
theorem g61Main (G_g66 : {α : Type} → Int → (Bool → (List Int) → Option α) → Option α) (G_g97 : {α : Type} → Bool → (List Int) → Bool → (List Int) → (Bool → (List Int) → Int → Option α) → Option α) (G_g81 : {α : Type} → Bool → (List Int) → Bool → (List Int) → (Bool → (List Int) → Int → Option α) → Option α) (G_g71 : {α : Type} → Bool → (List Int) → (Bool → Option α) → Option α) (L_g61l0 : {α : Type} → ByteArray → Bool → Bool → (List Int) → ((List Int) → Option α) → (Option α) → Int → Option α) (L_g61l2 : {α : Type} → ByteArray → Bool → Bool → (List Int) → (Int → (List Int) → Option α) → (Bool → (List Int) → Option α) → Int → Bool → (List Int) → Option α) {α : Type} (ls : List Lf) (k : TV → List (List Seg) → List (List Seg) → Option α) :
    g61K (g61b G_g66 G_g97 G_g81 G_g71 L_g61l0 L_g61l2) ls k = evFun tab (g61hd G_g66 G_g97 G_g81 G_g71 L_g61l0 L_g61l2) Go.Proofs.Try.f61 (fillT g61tp ls).1 (fillB g61bp (fillT g61tp ls).2).1 k := by kernel_rfl
theorem g61Calls (m : Nat) : (g61h m).CallsOk Go.Proofs.Try.prog := (cok_cons (g66Ok m) (cok_cons (g97Ok m) (cok_cons (g81Ok m) (cok_cons (g71Ok m) cok_nil))))
theorem g61l0Ok (m : Nat) (α : Type) (st : St) (k : Ex → St → Option α) (r : α) (h : (g61h m).loop 0 st k = some r) :
    ∃ e st', k e st' = some r ∧ CodeS Go.Proofs.Try.prog (.block 0 (.loop (bodyAt Go.Proofs.Try.f61 0))) st e st' :=
  loop_ok (tab := tab) (h := g61h m) (F := fun n ls k => g61l0K (fun z1367 c1368 c1370 a1371 k1378 k1379 v1369 => g61l0 z1367 c1368 c1370 a1371 k1378 k1379 n v1369) ls k) tabOk (g61Calls m) mixed (loopsOk_of _ (fun p hp => by rw [show loopsOf (bodyAt Go.Proofs.Try.f61 0) = [] by kernel_rfl] at hp; cases hp))
    (fun _ _ => rfl) (fun n ls k => g61l0Step (g66 m) (g97 m) (g81 m) (g71 m) (g61l0M m) (g61l2M m) (fun z1367 c1368 c1370 a1371 k1378 k1379 => g61l0 z1367 c1368 c1370 a1371 k1378 k1379 n) ls k) (n := m) h
theorem g61l2Ok (m : Nat) (α : Type) (st : St) (k : Ex → St → Option α) (r : α) (h : (g61h m).loop 2 st k = some r) :
    ∃ e st', k e st' = some r ∧ CodeS Go.Proofs.Try.prog (.block 2 (.loop (bodyAt Go.Proofs.Try.f61 2))) st e st' :=
  loop_ok (tab := tab) (h := g61h m) (F := fun n ls k => g61l2K (fun z1382 c1383 c1385 a1386 k1406 k1407 v1384 c1387 a1388 => g61l2 (g66 m) (g97 m) (g81 m) z1382 c1383 c1385 a1386 k1406 k1407 n v1384 c1387 a1388) ls k) tabOk (g61Calls m) mixed (loopsOk_of _ (fun p hp => by rw [show loopsOf (bodyAt Go.Proofs.Try.f61 2) = [] by kernel_rfl] at hp; cases hp))
    (fun _ _ => rfl) (fun n ls k => g61l2Step (g66 m) (g97 m) (g81 m) (g71 m) (g61l0M m) (g61l2M m) (fun z1382 c1383 c1385 a1386 k1406 k1407 => g61l2 (g66 m) (g97 m) (g81 m) z1382 c1383 c1385 a1386 k1406 k1407 n) ls k) (n := m) h
theorem g61Fn (m : Nat) : FnOk Go.Proofs.Try.prog 61 g61tp g61bp (fun {α} => g61K (g61 (α := α) m)) :=
  fn_ok (tab := tab) (h := g61h m) (fn := Go.Proofs.Try.f61) (F := fun {α} => g61K (g61 (α := α) m)) tabOk (g61Calls m) mixed (by kernel_rfl) (by kernel_rfl) (fun c hc => by
    rw [bodyOf_some hc]
    exact loopsOk_of _ (fun p hp => by
    rw [show loopsOf (bodyOf Go.Proofs.Try.f61) = [(0, bodyAt Go.Proofs.Try.f61 0), (2, bodyAt Go.Proofs.Try.f61 2)] by kernel_rfl] at hp
    simp only [List.mem_cons, List.not_mem_nil, or_false] at hp
    rcases hp with rfl | rfl
    · exact g61l0Ok m
    · exact g61l2Ok m))
    (fun α ls k => g61Main (g66 m) (g97 m) (g81 m) (g71 m) (g61l0M m) (g61l2M m) ls k)
theorem g61Ok (m : Nat) : RowOk Go.Proofs.Try.prog 61 (fun {α} => rowK g61tp g61bp (g61K (g61 (α := α) m))) := row_of (g61Fn m)

/-! ### g127: internal/stringslite.HasPrefix -/
def g127b {α : Type}   (z1462 : ByteArray) (z1463 : ByteArray) (k1467 : Bool → Option α) : Option α :=
  cond (decide (((z1462.size : Nat) : Int) ≥ ((z1463.size : Nat) : Int)))
   (
    if 0 ≤ (0 : Int) ∧ (0 : Int) ≤ ((z1463.size : Nat) : Int) ∧ ((z1463.size : Nat) : Int) ≤ ((z1462.size : Nat) : Int) then
      k1467 (bytesEq (ByteArray.extract z1462 0 (Int.toNat ((z1463.size : Nat) : Int))) z1463)
    else
      none)
   (
    k1467 false)
def g127 {α : Type} (m : Nat) : ByteArray → ByteArray → (Bool → Option α) → Option α :=
  g127b
def g127tp : List TP := [(.vl (.sv .str)), (.vl (.sv .str))]
def g127bp : List BP := []
def g127K {α : Type} (G : ByteArray → ByteArray → (Bool → Option α) → Option α) (ls : List Lf) (k : TV → List (List Seg) → List (List Seg) → Option α) : Option α :=
  G (lf ls 0).str (lf ls 1).str
    (fun y0 => k (.vl (.sv (.bool y0))) [] [])
def g127hd   : Hd where
  call := fun f args Bs k => none
  loop := fun id st k => none
  ro := fun f => []
def g127h (m : Nat) : Hd := g127hd
theorem g127Main   {α : Type} (ls : List Lf) (k : TV → List (List Seg) → List (List Seg) → Option α) :
    g127K (g127b) ls k = evFun tab (g127hd) Go.Proofs.Try.f127 (fillT g127tp ls).1 (fillB g127bp (fillT g127tp ls).2).1 k := by kernel_rfl
theorem g127Calls (m : Nat) : (g127h m).CallsOk Go.Proofs.Try.prog := cok_nil
theorem g127Fn (m : Nat) : FnOk Go.Proofs.Try.prog 127 g127tp g127bp (fun {α} => g127K (g127 (α := α) m)) :=
  fn_ok (tab := tab) (h := g127h m) (fn := Go.Proofs.Try.f127) (F := fun {α} => g127K (g127 (α := α) m)) tabOk (g127Calls m) mixed (by kernel_rfl) (by kernel_rfl) (fun c hc => by
    rw [bodyOf_some hc]
    exact loopsOk_of _ (fun p hp => by rw [show loopsOf (bodyOf Go.Proofs.Try.f127) = [] by kernel_rfl] at hp; cases hp))
    (fun α ls k => g127Main ls k)
theorem g127Ok (m : Nat) : RowOk Go.Proofs.Try.prog 127 (fun {α} => rowK g127tp g127bp (g127K (g127 (α := α) m))) := row_of (g127Fn m)

/-! ### g123: internal/stringslite.TrimPrefix -/
def g123b {α : Type} (G_g127 : {α : Type} → ByteArray → ByteArray → (Bool → Option α) → Option α)  (z1460 : ByteArray) (z1461 : ByteArray) (k1470 : ByteArray → Option α) : Option α :=
  G_g127 z1460 z1461
    (fun b1468 =>
      cond b1468
       (
        if 0 ≤ ((z1461.size : Nat) : Int) ∧ ((z1461.size : Nat) : Int) ≤ ((z1460.size : Nat) : Int) ∧ ((z1460.size : Nat) : Int) ≤ ((z1460.size : Nat) : Int) then
          k1470 (ByteArray.extract z1460 (Int.toNat ((z1461.size : Nat) : Int)) (Int.toNat ((z1460.size : Nat) : Int)))
        else
          none)
       (
        k1470 z1460))
def g123 {α : Type} (m : Nat) : ByteArray → ByteArray → (ByteArray → Option α) → Option α :=
  g123b (g127 m)
def g123tp : List TP := [(.vl (.sv .str)), (.vl (.sv .str))]
def g123bp : List BP := []
def g123K {α : Type} (G : ByteArray → ByteArray → (ByteArray → Option α) → Option α) (ls : List Lf) (k : TV → List (List Seg) → List (List Seg) → Option α) : Option α :=
  G (lf ls 0).str (lf ls 1).str
    (fun y0 => k (.vl (.sv (.str y0))) [] [])
def g123hd (G_g127 : {α : Type} → ByteArray → ByteArray → (Bool → Option α) → Option α)  : Hd where
  call := fun f args Bs k => cond (Nat.beq f 127) (rowK g127tp g127bp (g127K G_g127) args Bs k) (none)
  loop := fun id st k => none
  ro := fun f => []
def g123h (m : Nat) : Hd := g123hd (g127 m)
theorem g123Main (G_g127 : {α : Type} → ByteArray → ByteArray → (Bool → Option α) → Option α)  {α : Type} (ls : List Lf) (k : TV → List (List Seg) → List (List Seg) → Option α) :
    g123K (g123b G_g127) ls k = evFun tab (g123hd G_g127) Go.Proofs.Try.f123 (fillT g123tp ls).1 (fillB g123bp (fillT g123tp ls).2).1 k := by kernel_rfl
theorem g123Calls (m : Nat) : (g123h m).CallsOk Go.Proofs.Try.prog := (cok_cons (g127Ok m) cok_nil)
theorem g123Fn (m : Nat) : FnOk Go.Proofs.Try.prog 123 g123tp g123bp (fun {α} => g123K (g123 (α := α) m)) :=
  fn_ok (tab := tab) (h := g123h m) (fn := Go.Proofs.Try.f123) (F := fun {α} => g123K (g123 (α := α) m)) tabOk (g123Calls m) mixed (by kernel_rfl) (by kernel_rfl) (fun c hc => by
    rw [bodyOf_some hc]
    exact loopsOk_of _ (fun p hp => by rw [show loopsOf (bodyOf Go.Proofs.Try.f123) = [] by kernel_rfl] at hp; cases hp))
    (fun α ls k => g123Main (g127 m) ls k)
theorem g123Ok (m : Nat) : RowOk Go.Proofs.Try.prog 123 (fun {α} => rowK g123tp g123bp (g123K (g123 (α := α) m))) := row_of (g123Fn m)

/-! ### g104: strings.TrimPrefix -/
def g104b {α : Type} (G_g123 : {α : Type} → ByteArray → ByteArray → (ByteArray → Option α) → Option α)  (z1458 : ByteArray) (z1459 : ByteArray) (k1472 : ByteArray → Option α) : Option α :=
  G_g123 z1458 z1459
    (fun s1471 =>
      k1472 s1471)
def g104 {α : Type} (m : Nat) : ByteArray → ByteArray → (ByteArray → Option α) → Option α :=
  g104b (g123 m)
def g104tp : List TP := [(.vl (.sv .str)), (.vl (.sv .str))]
def g104bp : List BP := []
def g104K {α : Type} (G : ByteArray → ByteArray → (ByteArray → Option α) → Option α) (ls : List Lf) (k : TV → List (List Seg) → List (List Seg) → Option α) : Option α :=
  G (lf ls 0).str (lf ls 1).str
    (fun y0 => k (.vl (.sv (.str y0))) [] [])
def g104hd (G_g123 : {α : Type} → ByteArray → ByteArray → (ByteArray → Option α) → Option α)  : Hd where
  call := fun f args Bs k => cond (Nat.beq f 123) (rowK g123tp g123bp (g123K G_g123) args Bs k) (none)
  loop := fun id st k => none
  ro := fun f => []
def g104h (m : Nat) : Hd := g104hd (g123 m)
theorem g104Main (G_g123 : {α : Type} → ByteArray → ByteArray → (ByteArray → Option α) → Option α)  {α : Type} (ls : List Lf) (k : TV → List (List Seg) → List (List Seg) → Option α) :
    g104K (g104b G_g123) ls k = evFun tab (g104hd G_g123) Go.Proofs.Try.f104 (fillT g104tp ls).1 (fillB g104bp (fillT g104tp ls).2).1 k := by kernel_rfl
theorem g104Calls (m : Nat) : (g104h m).CallsOk Go.Proofs.Try.prog := (cok_cons (g123Ok m) cok_nil)
theorem g104Fn (m : Nat) : FnOk Go.Proofs.Try.prog 104 g104tp g104bp (fun {α} => g104K (g104 (α := α) m)) :=
  fn_ok (tab := tab) (h := g104h m) (fn := Go.Proofs.Try.f104) (F := fun {α} => g104K (g104 (α := α) m)) tabOk (g104Calls m) mixed (by kernel_rfl) (by kernel_rfl) (fun c hc => by
    rw [bodyOf_some hc]
    exact loopsOk_of _ (fun p hp => by rw [show loopsOf (bodyOf Go.Proofs.Try.f104) = [] by kernel_rfl] at hp; cases hp))
    (fun α ls k => g104Main (g123 m) ls k)
theorem g104Ok (m : Nat) : RowOk Go.Proofs.Try.prog 104 (fun {α} => rowK g104tp g104bp (g104K (g104 (α := α) m))) := row_of (g104Fn m)

/-! ### g103: impl.integerText -/
def g103l0b {α : Type}   (z1478 : ByteArray) (k1486 : Option α) (k1487 : Option α) (r1488 : Int → Option α) (v1479 : Int) : Option α :=
  cond (decide (v1479 < ((z1478.size : Nat) : Int)))
   (
    if 0 ≤ v1479 ∧ v1479 < z1478.size then
      cond (decide ((byteAt z1478 v1479.toNat) < (48 : Int)))
       (
        k1486)
       (
        if 0 ≤ v1479 ∧ v1479 < z1478.size then
          cond (decide ((byteAt z1478 v1479.toNat) > (57 : Int)))
           (
            k1486)
           (
            r1488 (IntKind.wrap .i64 (v1479 + (1 : Int))))
        else
          none)
    else
      none)
   (
    k1487)
def g103l0 {α : Type}   (z1478 : ByteArray) (k1486 : Option α) (k1487 : Option α) : Nat → Int → Option α
  | 0 => fun _ => none
  | m + 1 => fun v1479 => g103l0b z1478 k1486 k1487 (g103l0 z1478 k1486 k1487 m) v1479
def g103l0M {α : Type} (m : Nat) : ByteArray → (Option α) → (Option α) → Int → Option α :=
  fun z1478 k1486 k1487 v1479 => g103l0 z1478 k1486 k1487 m v1479
def g103l0D : LoopD := { n := 34, sl := [3, 4], bl := [], tp := [(.vl (.sv .str)), (.vl (.sv (.int .i64)))], bp := [], xs := [(1, [2], []), (2, [], [])] }
def g103l0K {α : Type} (L : ByteArray → (Option α) → (Option α) → Int → Option α) (ls : List Lf) (k : Ex → St → Option α) : Option α :=
  L (lf ls 0).str
    (k .ret (mkSt 34 [2] [(.vl (.sv (.bool false)))] [] []))
    (k .normal (mkSt 34 [] [] [] []))
    (lf ls 1).int
def g103b {α : Type} (G_g104 : {α : Type} → ByteArray → ByteArray → (ByteArray → Option α) → Option α) (L_g103l0 : {α : Type} → ByteArray → (Option α) → (Option α) → Int → Option α) (z1457 : ByteArray) (k1489 : Bool → Option α) : Option α :=
  G_g104 z1457 (⟨#[45]⟩ : ByteArray)
    (fun s1473 =>
      cond (bytesEq s1473 (⟨#[]⟩ : ByteArray))
       (
        k1489 false)
       (
        if 0 ≤ (0 : Int) ∧ (0 : Int) < s1473.size then
          cond ((byteAt s1473 (0 : Int).toNat) == (48 : Int))
           (
            cond (!bytesEq z1457 (⟨#[48]⟩ : ByteArray))
             (
              k1489 false)
             (
              L_g103l0 s1473
                (
                  k1489 false)
                (
                  k1489 true)
                (0 : Int)))
           (
            L_g103l0 s1473
              (
                k1489 false)
              (
                k1489 true)
              (0 : Int))
        else
          none))
def g103 {α : Type} (m : Nat) : ByteArray → (Bool → Option α) → Option α :=
  g103b (g104 m) (g103l0M m)
def g103tp : List TP := [(.vl (.sv .str))]
def g103bp : List BP := []
def g103K {α : Type} (G : ByteArray → (Bool → Option α) → Option α) (ls : List Lf) (k : TV → List (List Seg) → List (List Seg) → Option α) : Option α :=
  G (lf ls 0).str
    (fun y0 => k (.vl (.sv (.bool y0))) [] [])
def g103hd (G_g104 : {α : Type} → ByteArray → ByteArray → (ByteArray → Option α) → Option α) (L_g103l0 : {α : Type} → ByteArray → (Option α) → (Option α) → Int → Option α) : Hd where
  call := fun f args Bs k => cond (Nat.beq f 104) (rowK g104tp g104bp (g104K G_g104) args Bs k) (none)
  loop := fun id st k => cond (Nat.beq id 0) (loopH g103l0D (g103l0K L_g103l0) st k) (none)
  ro := fun f => []
def g103h (m : Nat) : Hd := g103hd (g104 m) (g103l0M m)
theorem g103l0Step (G_g104 : {α : Type} → ByteArray → ByteArray → (ByteArray → Option α) → Option α) (L_g103l0 : {α : Type} → ByteArray → (Option α) → (Option α) → Int → Option α) {α : Type} (L : ByteArray → (Option α) → (Option α) → Int → Option α) (ls : List Lf) (k : Ex → St → Option α) :
    g103l0K (fun z1478 k1486 k1487 v1479 => g103l0b z1478 k1486 k1487 (L z1478 k1486 k1487) v1479) ls k = ev tab (g103hd G_g104 L_g103l0) (bodyAt Go.Proofs.Try.f103 0) (atHead g103l0D ls) (loopK g103l0D 0 (loopH g103l0D (g103l0K L)) k) := by kernel_rfl
theorem g103Main (G_g104 : {α : Type} → ByteArray → ByteArray → (ByteArray → Option α) → Option α) (L_g103l0 : {α : Type} → ByteArray → (Option α) → (Option α) → Int → Option α) {α : Type} (ls : List Lf) (k : TV → List (List Seg) → List (List Seg) → Option α) :
    g103K (g103b G_g104 L_g103l0) ls k = evFun tab (g103hd G_g104 L_g103l0) Go.Proofs.Try.f103 (fillT g103tp ls).1 (fillB g103bp (fillT g103tp ls).2).1 k := by kernel_rfl
theorem g103Calls (m : Nat) : (g103h m).CallsOk Go.Proofs.Try.prog := (cok_cons (g104Ok m) cok_nil)
theorem g103l0Ok (m : Nat) (α : Type) (st : St) (k : Ex → St → Option α) (r : α) (h : (g103h m).loop 0 st k = some r) :
    ∃ e st', k e st' = some r ∧ CodeS Go.Proofs.Try.prog (.block 0 (.loop (bodyAt Go.Proofs.Try.f103 0))) st e st' :=
  loop_ok (tab := tab) (h := g103h m) (F := fun n ls k => g103l0K (fun z1478 k1486 k1487 v1479 => g103l0 z1478 k1486 k1487 n v1479) ls k) tabOk (g103Calls m) mixed (loopsOk_of _ (fun p hp => by rw [show loopsOf (bodyAt Go.Proofs.Try.f103 0) = [] by kernel_rfl] at hp; cases hp))
    (fun _ _ => rfl) (fun n ls k => g103l0Step (g104 m) (g103l0M m) (fun z1478 k1486 k1487 => g103l0 z1478 k1486 k1487 n) ls k) (n := m) h
theorem g103Fn (m : Nat) : FnOk Go.Proofs.Try.prog 103 g103tp g103bp (fun {α} => g103K (g103 (α := α) m)) :=
  fn_ok (tab := tab) (h := g103h m) (fn := Go.Proofs.Try.f103) (F := fun {α} => g103K (g103 (α := α) m)) tabOk (g103Calls m) mixed (by kernel_rfl) (by kernel_rfl) (fun c hc => by
    rw [bodyOf_some hc]
    exact loopsOk_of _ (fun p hp => by
    rw [show loopsOf (bodyOf Go.Proofs.Try.f103) = [(0, bodyAt Go.Proofs.Try.f103 0)] by kernel_rfl] at hp
    simp only [List.mem_cons, List.not_mem_nil, or_false] at hp
    rcases hp with rfl
    exact g103l0Ok m))
    (fun α ls k => g103Main (g104 m) (g103l0M m) ls k)
theorem g103Ok (m : Nat) : RowOk Go.Proofs.Try.prog 103 (fun {α} => rowK g103tp g103bp (g103K (g103 (α := α) m))) := row_of (g103Fn m)

/-! ### g62: impl.ReadWide -/
def g62l0b {α : Type} (G_g26 : {α : Type} → Int → (Bool → (List Int) → Option α) → Option α) (G_g78 : {α : Type} → Bool → (List Int) → Bool → (List Int) → Bool → (Bool → (List Int) → Bool → Option α) → Option α) (G_g79 : {α : Type} → Bool → (List Int) → Bool → (List Int) → Bool → (Bool → (List Int) → Bool → Option α) → Option α)  (z1493 : ByteArray) (z1494 : ByteArray) (c1496 : Bool) (a1497 : List Int) (k1517 : Bool → Bool → (List Int) → Option α) (r1518 : Int → Bool → Bool → (List Int) → Option α) (v1495 : Int) (c1498 : Bool) (c1499 : Bool) (a1500 : List Int) : Option α :=
  cond (decide (v1495 < ((z1494.size : Nat) : Int)))
   (
    cond (!c1498)
     (
      G_g26 (10 : Int)
        (fun b1503 l1504 =>
          G_g78 c1499 a1500 b1503 l1504 c1498
            (fun b1505 l1506 b1507 =>
              if 0 ≤ v1495 ∧ v1495 < z1494.size then
                G_g26 (IntKind.wrap .i64 (IntKind.wrap .u8 ((byteAt z1494 v1495.toNat) - (48 : Int))))
                  (fun b1511 l1512 =>
                    G_g79 b1505 l1506 b1511 l1512 b1507
                      (fun b1513 l1514 b1515 =>
                        r1518 (IntKind.wrap .i64 (v1495 + (1 : Int))) b1515 b1513 l1514))
              else
                none)))
     (
      k1517 c1498 c1499 a1500))
   (
    k1517 c1498 c1499 a1500)
def g62l0 {α : Type} (G_g26 : {α : Type} → Int → (Bool → (List Int) → Option α) → Option α) (G_g78 : {α : Type} → Bool → (List Int) → Bool → (List Int) → Bool → (Bool → (List Int) → Bool → Option α) → Option α) (G_g79 : {α : Type} → Bool → (List Int) → Bool → (List Int) → Bool → (Bool → (List Int) → Bool → Option α) → Option α)  (z1493 : ByteArray) (z1494 : ByteArray) (c1496 : Bool) (a1497 : List Int) (k1517 : Bool → Bool → (List Int) → Option α) : Nat → Int → Bool → Bool → (List Int) → Option α
  | 0 => fun _ _ _ _ => none
  | m + 1 => fun v1495 c1498 c1499 a1500 => g62l0b G_g26 G_g78 G_g79 z1493 z1494 c1496 a1497 k1517 (g62l0 G_g26 G_g78 G_g79 z1493 z1494 c1496 a1497 k1517 m) v1495 c1498 c1499 a1500
def g62l0M {α : Type} (m : Nat) : ByteArray → ByteArray → Bool → (List Int) → (Bool → Bool → (List Int) → Option α) → Int → Bool → Bool → (List Int) → Option α :=
  fun z1493 z1494 c1496 a1497 k1517 v1495 c1498 c1499 a1500 => g62l0 (g26 m) (g78 m) (g79 m) z1493 z1494 c1496 a1497 k1517 m v1495 c1498 c1499 a1500
def g62l0D : LoopD := { n := 45, sl := [0, 2, 4, 5, 6, 7], bl := [1002, 1005, 1006], tp := [(.vl (.sv .str)), (.vl (.sv (.ptr 1002 0))), (.vl (.sv .str)), (.vl (.sv (.ptr 1005 0))), (.vl (.sv (.ptr 1006 0))), (.vl (.sv (.int .i64)))], bp := [(true, [(.one .bool), (.seq (.int .u32) 6)]), (true, [(.one .bool)]), (true, [(.one .bool), (.seq (.int .u32) 6)])], xs := [(2, [0, 2, 5, 6], [1002, 1005, 1006])] }
def g62l0K {α : Type} (L : ByteArray → ByteArray → Bool → (List Int) → (Bool → Bool → (List Int) → Option α) → Int → Bool → Bool → (List Int) → Option α) (ls : List Lf) (k : Ex → St → Option α) : Option α :=
  L (lf ls 0).str (lf ls 1).str (lf ls 3).bool ((lf ls 4).lst (.int .u32))
    (fun y3 y4 y5 => k .normal (mkSt 45 [0, 2, 5, 6] [(.vl (.sv (.str (lf ls 0).str))), (.vl (.sv (.ptr 1002 0))), (.vl (.sv (.ptr 1005 0))), (.vl (.sv (.ptr 1006 0)))] [1002, 1005, 1006] [(true, [(.one (.bool (lf ls 3).bool)), (.seq (.int .u32) 6 ((lf ls 4).lst (.int .u32)))]), (true, [(.one (.bool y3))]), (true, [(.one (.bool y4)), (.seq (.int .u32) 6 y5)])]))
    (lf ls 2).int (lf ls 5).bool (lf ls 6).bool ((lf ls 7).lst (.int .u32))
def g62b {α : Type} (G_g103 : {α : Type} → ByteArray → (Bool → Option α) → Option α) (G_g104 : {α : Type} → ByteArray → ByteArray → (ByteArray → Option α) → Option α) (G_g26 : {α : Type} → Int → (Bool → (List Int) → Option α) → Option α) (G_g78 : {α : Type} → Bool → (List Int) → Bool → (List Int) → Bool → (Bool → (List Int) → Bool → Option α) → Option α) (G_g79 : {α : Type} → Bool → (List Int) → Bool → (List Int) → Bool → (Bool → (List Int) → Bool → Option α) → Option α) (G_g74 : {α : Type} → Bool → (List Int) → Bool → (Bool → (List Int) → Int → Option α) → Option α) (L_g62l0 : {α : Type} → ByteArray → ByteArray → Bool → (List Int) → (Bool → Bool → (List Int) → Option α) → Int → Bool → Bool → (List Int) → Option α) (z1456 : ByteArray) (k1527 : Bool → (List Int) → Int → Option α) : Option α :=
  G_g103 z1456
    (fun b1490 =>
      cond (!b1490)
       (
        k1527 false [0, 0, 0, 0, 0, 0] (5 : Int))
       (
        G_g104 z1456 (⟨#[45]⟩ : ByteArray)
          (fun s1492 =>
            L_g62l0 z1456 s1492 false [0, 0, 0, 0, 0, 0]
              (fun b1519 b1520 l1521 =>
                if 0 ≤ (0 : Int) ∧ (0 : Int) < z1456.size then
                  G_g74 ((byteAt z1456 (0 : Int).toNat) == (45 : Int)) l1521 b1519
                    (fun b1524 l1525 x1526 =>
                      k1527 b1524 l1525 x1526)
                else
                  none)
              (0 : Int) false false [0, 0, 0, 0, 0, 0])))
def g62 {α : Type} (m : Nat) : ByteArray → (Bool → (List Int) → Int → Option α) → Option α :=
  g62b (g103 m) (g104 m) (g26 m) (g78 m) (g79 m) (g74 m) (g62l0M m)
def g62tp : List TP := [(.vl (.sv .str))]
def g62bp : List BP := []
def g62K {α : Type} (G : ByteArray → (Bool → (List Int) → Int → Option α) → Option α) (ls : List Lf) (k : TV → List (List Seg) → List (List Seg) → Option α) : Option α :=
  G (lf ls 0).str
    (fun y0 y1 y2 => k (.tup [(.agg [(.one (.bool y0)), (.seq (.int .u32) 6 y1)]), (.sv (.int .i64 y2))]) [] [])
def g62hd (G_g103 : {α : Type} → ByteArray → (Bool → Option α) → Option α) (G_g104 : {α : Type} → ByteArray → ByteArray → (ByteArray → Option α) → Option α) (G_g26 : {α : Type} → Int → (Bool → (List Int) → Option α) → Option α) (G_g78 : {α : Type} → Bool → (List Int) → Bool → (List Int) → Bool → (Bool → (List Int) → Bool → Option α) → Option α) (G_g79 : {α : Type} → Bool → (List Int) → Bool → (List Int) → Bool → (Bool → (List Int) → Bool → Option α) → Option α) (G_g74 : {α : Type} → Bool → (List Int) → Bool → (Bool → (List Int) → Int → Option α) → Option α) (L_g62l0 : {α : Type} → ByteArray → ByteArray → Bool → (List Int) → (Bool → Bool → (List Int) → Option α) → Int → Bool → Bool → (List Int) → Option α) : Hd where
  call := fun f args Bs k => cond (Nat.beq f 103) (rowK g103tp g103bp (g103K G_g103) args Bs k) (cond (Nat.beq f 104) (rowK g104tp g104bp (g104K G_g104) args Bs k) (cond (Nat.beq f 26) (rowK g26tp g26bp (g26K G_g26) args Bs k) (cond (Nat.beq f 78) (rowK g78tp g78bp (g78K G_g78) args Bs k) (cond (Nat.beq f 79) (rowK g79tp g79bp (g79K G_g79) args Bs k) (cond (Nat.beq f 74) (rowK g74tp g74bp (g74K G_g74) args Bs k) (none))))))
  loop := fun id st k => cond (Nat.beq id 0) (loopH g62l0D (g62l0K L_g62l0) st k) (none)
  ro := fun f => cond (Nat.beq f 74) [0] ([])
def g62h (m : Nat) : Hd := g62hd (g103 m) (g104 m) (g26 m) (g78 m) (g79 m) (g74 m) (g62l0M m)
theorem g62l0Step (G_g103 : {α : Type} → ByteArray → (Bool → Option α) → Option α) (G_g104 : {α : Type} → ByteArray → ByteArray → (ByteArray → Option α) → Option α) (G_g26 : {α : Type} → Int → (Bool → (List Int) → Option α) → Option α) (G_g78 : {α : Type} → Bool → (List Int) → Bool → (List Int) → Bool → (Bool → (List Int) → Bool → Option α) → Option α) (G_g79 : {α : Type} → Bool → (List Int) → Bool → (List Int) → Bool → (Bool → (List Int) → Bool → Option α) → Option α) (G_g74 : {α : Type} → Bool → (List Int) → Bool → (Bool → (List Int) → Int → Option α) → Option α) (L_g62l0 : {α : Type} → ByteArray → ByteArray → Bool → (List Int) → (Bool → Bool → (List Int) → Option α) → Int → Bool → Bool → (List Int) → Option α) {α : Type} (L : ByteArray → ByteArray → Bool → (List Int) → (Bool → Bool → (List Int) → Option α) → Int → Bool → Bool → (List Int) → Option α) (ls : List Lf) (k : Ex → St → Option α) :
    g62l0K (fun z1493 z1494 c1496 a1497 k1517 v1495 c1498 c1499 a1500 => g62l0b G_g26 G_g78 G_g79 z1493 z1494 c1496 a1497 k1517 (L z1493 z1494 c1496 a1497 k1517) v1495 c1498 c1499 a1500) ls k = ev tab (g62hd G_g103 G_g104 G_g26 G_g78 G_g79 G_g74 L_g62l0) (bodyAt Go.Proofs.Try.f62 0) (atHead g62l0D ls) (loopK g62l0D 0 (loopH g62l0D (g62l0K L)) k) := by kernel_rfl
theorem g62Main (G_g103 : {α : Type} → ByteArray → (Bool → Option α) → Option α) (G_g104 : {α : Type} → ByteArray → ByteArray → (ByteArray → Option α) → Option α) (G_g26 : {α : Type} → Int → (Bool → (List Int) → Option α) → Option α) (G_g78 : {α : Type} → Bool → (List Int) → Bool → (List Int) → Bool → (Bool → (List Int) → Bool → Option α) → Option α) (G_g79 : {α : Type} → Bool → (List Int) → Bool → (List Int) → Bool → (Bool → (List Int) → Bool → Option α) → Option α) (G_g74 : {α : Type} → Bool → (List Int) → Bool → (Bool → (List Int) → Int → Option α) → Option α) (L_g62l0 : {α : Type} → ByteArray → ByteArray → Bool → (List Int) → (Bool → Bool → (List Int) → Option α) → Int → Bool → Bool → (List Int) → Option α) {α : Type} (ls : List Lf) (k : TV → List (List Seg) → List (List Seg) → Option α) :
    g62K (g62b G_g103 G_g104 G_g26 G_g78 G_g79 G_g74 L_g62l0) ls k = evFun tab (g62hd G_g103 G_g104 G_g26 G_g78 G_g79 G_g74 L_g62l0) Go.Proofs.Try.f62 (fillT g62tp ls).1 (fillB g62bp (fillT g62tp ls).2).1 k := by kernel_rfl
theorem g62Calls (m : Nat) : (g62h m).CallsOk Go.Proofs.Try.prog := (cok_cons (g103Ok m) (cok_cons (g104Ok m) (cok_cons (g26Ok m) (cok_cons (g78Ok m) (cok_cons (g79Ok m) (cok_cons (g74Ok m) cok_nil))))))
theorem g62l0Ok (m : Nat) (α : Type) (st : St) (k : Ex → St → Option α) (r : α) (h : (g62h m).loop 0 st k = some r) :
    ∃ e st', k e st' = some r ∧ CodeS Go.Proofs.Try.prog (.block 0 (.loop (bodyAt Go.Proofs.Try.f62 0))) st e st' :=
  loop_ok (tab := tab) (h := g62h m) (F := fun n ls k => g62l0K (fun z1493 z1494 c1496 a1497 k1517 v1495 c1498 c1499 a1500 => g62l0 (g26 m) (g78 m) (g79 m) z1493 z1494 c1496 a1497 k1517 n v1495 c1498 c1499 a1500) ls k) tabOk (g62Calls m) mixed (loopsOk_of _ (fun p hp => by rw [show loopsOf (bodyAt Go.Proofs.Try.f62 0) = [] by kernel_rfl] at hp; cases hp))
    (fun _ _ => rfl) (fun n ls k => g62l0Step (g103 m) (g104 m) (g26 m) (g78 m) (g79 m) (g74 m) (g62l0M m) (fun z1493 z1494 c1496 a1497 k1517 => g62l0 (g26 m) (g78 m) (g79 m) z1493 z1494 c1496 a1497 k1517 n) ls k) (n := m) h
theorem g62Fn (m : Nat) : FnOk Go.Proofs.Try.prog 62 g62tp g62bp (fun {α} => g62K (g62 (α := α) m)) :=
  fn_ok (tab := tab) (h := g62h m) (fn := Go.Proofs.Try.f62) (F := fun {α} => g62K (g62 (α := α) m)) tabOk (g62Calls m) mixed (by kernel_rfl) (by kernel_rfl) (fun c hc => by
    rw [bodyOf_some hc]
    exact loopsOk_of _ (fun p hp => by
    rw [show loopsOf (bodyOf Go.Proofs.Try.f62) = [(0, bodyAt Go.Proofs.Try.f62 0)] by kernel_rfl] at hp
    simp only [List.mem_cons, List.not_mem_nil, or_false] at hp
    rcases hp with rfl
    exact g62l0Ok m))
    (fun α ls k => g62Main (g103 m) (g104 m) (g26 m) (g78 m) (g79 m) (g74 m) (g62l0M m) ls k)
theorem g62Ok (m : Nat) : RowOk Go.Proofs.Try.prog 62 (fun {α} => rowK g62tp g62bp (g62K (g62 (α := α) m))) := row_of (g62Fn m)

/-! ### g18: laws.FnExactReadWide -/
def g18b {α : Type} (G_g61 : {α : Type} → ByteArray → (Bool → (List Int) → Int → Option α) → Option α) (G_g62 : {α : Type} → ByteArray → (Bool → (List Int) → Int → Option α) → Option α) (G_g27 : {α : Type} → Bool → (List Int) → Bool → (List Int) → (Bool → Option α) → Option α)  (z1356 : ByteArray) (k1534 : Bool → Option α) : Option α :=
  cond (decide (((z1356.size : Nat) : Int) > (1048576 : Int)))
   (
    k1534 true)
   (
    G_g61 z1356
      (fun b1453 l1454 x1455 =>
        G_g62 z1356
          (fun b1528 l1529 x1530 =>
            G_g27 b1528 l1529 b1453 l1454
              (fun b1531 =>
                cond (!b1531)
                 (
                  k1534 false)
                 (
                  cond (x1530 != x1455)
                   (
                    k1534 false)
                   (
                    k1534 true))))))
def g18 {α : Type} (m : Nat) : ByteArray → (Bool → Option α) → Option α :=
  g18b (g61 m) (g62 m) (g27 m)
def g18tp : List TP := [(.vl (.sv .str))]
def g18bp : List BP := []
def g18K {α : Type} (G : ByteArray → (Bool → Option α) → Option α) (ls : List Lf) (k : TV → List (List Seg) → List (List Seg) → Option α) : Option α :=
  G (lf ls 0).str
    (fun y0 => k (.vl (.sv (.bool y0))) [] [])
def g18hd (G_g61 : {α : Type} → ByteArray → (Bool → (List Int) → Int → Option α) → Option α) (G_g62 : {α : Type} → ByteArray → (Bool → (List Int) → Int → Option α) → Option α) (G_g27 : {α : Type} → Bool → (List Int) → Bool → (List Int) → (Bool → Option α) → Option α)  : Hd where
  call := fun f args Bs k => cond (Nat.beq f 61) (rowK g61tp g61bp (g61K G_g61) args Bs k) (cond (Nat.beq f 62) (rowK g62tp g62bp (g62K G_g62) args Bs k) (cond (Nat.beq f 27) (rowK g27tp g27bp (g27K G_g27) args Bs k) (none)))
  loop := fun id st k => none
  ro := fun f => []
def g18h (m : Nat) : Hd := g18hd (g61 m) (g62 m) (g27 m)
theorem g18Main (G_g61 : {α : Type} → ByteArray → (Bool → (List Int) → Int → Option α) → Option α) (G_g62 : {α : Type} → ByteArray → (Bool → (List Int) → Int → Option α) → Option α) (G_g27 : {α : Type} → Bool → (List Int) → Bool → (List Int) → (Bool → Option α) → Option α)  {α : Type} (ls : List Lf) (k : TV → List (List Seg) → List (List Seg) → Option α) :
    g18K (g18b G_g61 G_g62 G_g27) ls k = evFun tab (g18hd G_g61 G_g62 G_g27) Go.Proofs.Try.f18 (fillT g18tp ls).1 (fillB g18bp (fillT g18tp ls).2).1 k := by kernel_rfl
theorem g18Calls (m : Nat) : (g18h m).CallsOk Go.Proofs.Try.prog := (cok_cons (g61Ok m) (cok_cons (g62Ok m) (cok_cons (g27Ok m) cok_nil)))
theorem g18Fn (m : Nat) : FnOk Go.Proofs.Try.prog 18 g18tp g18bp (fun {α} => g18K (g18 (α := α) m)) :=
  fn_ok (tab := tab) (h := g18h m) (fn := Go.Proofs.Try.f18) (F := fun {α} => g18K (g18 (α := α) m)) tabOk (g18Calls m) mixed (by kernel_rfl) (by kernel_rfl) (fun c hc => by
    rw [bodyOf_some hc]
    exact loopsOk_of _ (fun p hp => by rw [show loopsOf (bodyOf Go.Proofs.Try.f18) = [] by kernel_rfl] at hp; cases hp))
    (fun α ls k => g18Main (g61 m) (g62 m) (g27 m) ls k)
theorem g18Ok (m : Nat) : RowOk Go.Proofs.Try.prog 18 (fun {α} => rowK g18tp g18bp (g18K (g18 (α := α) m))) := row_of (g18Fn m)
end Go.Proofs.Ytcccndkeaichcaa.Sx
