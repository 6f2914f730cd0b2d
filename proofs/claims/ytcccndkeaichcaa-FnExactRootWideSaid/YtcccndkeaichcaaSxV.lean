/- Functions. Printed by our own sx.py. -/
import Derived.Test.YtcccndkeaichcaaSxV1
namespace Go.Proofs.Ytcccndkeaichcaa.Sx
open Go
set_option linter.unusedVariables false
set_option maxRecDepth 100000
/-! ### g88: impl.rootOf -/
def g88l0b {α : Type} (G_g109 : {α : Type} → ((List Int) → Option α) → Option α) (G_g117 : {α : Type} → (List Int) → Int → ((List Int) → Option α) → Option α) (G_g108 : {α : Type} → (List Int) → (List Int) → ((List Int) → Bool → Option α) → Option α) (G_g114 : {α : Type} → (List Int) → (List Int) → ((List Int) → Bool → Option α) → Option α) (G_g111 : {α : Type} → (List Int) → (List Int) → (Int → Option α) → Option α)  (a1326 : List Int) (a1327 : List Int) (k1342 : (List Int) → Option α) (r1343 : Int → (List Int) → Option α) (v1325 : Int) (a1328 : List Int) : Option α :=
  cond (decide (v1325 ≥ (0 : Int)))
   (
    G_g109
      (fun l1330 =>
        G_g117 l1330 v1325
          (fun l1331 =>
            G_g108 a1328 l1331
              (fun l1332 b1333 =>
                G_g114 l1332 l1332
                  (fun l1334 b1335 =>
                    cond (!b1335)
                     (
                      G_g111 l1334 a1326
                        (fun x1337 =>
                          cond (decide (x1337 ≤ (0 : Int)))
                           (
                            r1343 (IntKind.wrap .i64 (v1325 - (1 : Int))) l1332)
                           (
                            r1343 (IntKind.wrap .i64 (v1325 - (1 : Int))) a1328)))
                     (
                      r1343 (IntKind.wrap .i64 (v1325 - (1 : Int))) a1328))))))
   (
    k1342 a1328)
def g88l0 {α : Type} (G_g109 : {α : Type} → ((List Int) → Option α) → Option α) (G_g117 : {α : Type} → (List Int) → Int → ((List Int) → Option α) → Option α) (G_g108 : {α : Type} → (List Int) → (List Int) → ((List Int) → Bool → Option α) → Option α) (G_g114 : {α : Type} → (List Int) → (List Int) → ((List Int) → Bool → Option α) → Option α) (G_g111 : {α : Type} → (List Int) → (List Int) → (Int → Option α) → Option α)  (a1326 : List Int) (a1327 : List Int) (k1342 : (List Int) → Option α) : Nat → Int → (List Int) → Option α
  | 0 => fun _ _ => none
  | m + 1 => fun v1325 a1328 => g88l0b G_g109 G_g117 G_g108 G_g114 G_g111 a1326 a1327 k1342 (g88l0 G_g109 G_g117 G_g108 G_g114 G_g111 a1326 a1327 k1342 m) v1325 a1328
def g88l0M {α : Type} (m : Nat) : (List Int) → (List Int) → ((List Int) → Option α) → Int → (List Int) → Option α :=
  fun a1326 a1327 k1342 v1325 a1328 => g88l0 (g109 m) (g117 m) (g108 m) (g114 m) (g111 m) a1326 a1327 k1342 m v1325 a1328
def g88l0D : LoopD := { n := 42, sl := [1, 2, 3, 4], bl := [1001, 1002, 1003], tp := [(.vl (.sv (.ptr 1001 0))), (.vl (.sv (.ptr 1002 0))), (.vl (.sv (.ptr 1003 0))), (.vl (.sv (.int .i64)))], bp := [(true, [(.seq (.int .u32) 6)]), (true, [(.seq (.int .u32) 6)]), (true, [(.seq (.int .u32) 6)])], xs := [(2, [2, 3], [1002, 1003])] }
def g88l0K {α : Type} (L : (List Int) → (List Int) → ((List Int) → Option α) → Int → (List Int) → Option α) (ls : List Lf) (k : Ex → St → Option α) : Option α :=
  L ((lf ls 1).lst (.int .u32)) ((lf ls 2).lst (.int .u32))
    (fun y1 => k .normal (mkSt 42 [2, 3] [(.vl (.sv (.ptr 1002 0))), (.vl (.sv (.ptr 1003 0)))] [1002, 1003] [(true, [(.seq (.int .u32) 6 ((lf ls 2).lst (.int .u32)))]), (true, [(.seq (.int .u32) 6 y1)])]))
    (lf ls 0).int ((lf ls 3).lst (.int .u32))
def g88b {α : Type} (G_g94 : {α : Type} → (List Int) → (Int → Option α) → Option α) (G_g109 : {α : Type} → ((List Int) → Option α) → Option α) (G_g117 : {α : Type} → (List Int) → Int → ((List Int) → Option α) → Option α) (G_g108 : {α : Type} → (List Int) → (List Int) → ((List Int) → Bool → Option α) → Option α) (G_g114 : {α : Type} → (List Int) → (List Int) → ((List Int) → Bool → Option α) → Option α) (G_g111 : {α : Type} → (List Int) → (List Int) → (Int → Option α) → Option α) (L_g88l0 : {α : Type} → (List Int) → (List Int) → ((List Int) → Option α) → Int → (List Int) → Option α) (u1321 : List Int) (k1345 : (List Int) → Option α) : Option α :=
  G_g94 u1321
    (fun x1322 =>
      L_g88l0 u1321 [0, 0, 0, 0, 0, 0]
        (fun l1344 =>
          k1345 l1344)
        (IntKind.wrap .i64 (Int.tdiv (IntKind.wrap .i64 (x1322 + (1 : Int))) (2 : Int))) [0, 0, 0, 0, 0, 0])
def g88 {α : Type} (m : Nat) : (List Int) → ((List Int) → Option α) → Option α :=
  g88b (g94 m) (g109 m) (g117 m) (g108 m) (g114 m) (g111 m) (g88l0M m)
def g88tp : List TP := [(.vl (.agg [(.seq (.int .u32) 6)]))]
def g88bp : List BP := []
def g88K {α : Type} (G : (List Int) → ((List Int) → Option α) → Option α) (ls : List Lf) (k : TV → List (List Seg) → List (List Seg) → Option α) : Option α :=
  G ((lf ls 0).lst (.int .u32))
    (fun y0 => k (.vl (.agg [(.seq (.int .u32) 6 y0)])) [] [])
def g88hd (G_g94 : {α : Type} → (List Int) → (Int → Option α) → Option α) (G_g109 : {α : Type} → ((List Int) → Option α) → Option α) (G_g117 : {α : Type} → (List Int) → Int → ((List Int) → Option α) → Option α) (G_g108 : {α : Type} → (List Int) → (List Int) → ((List Int) → Bool → Option α) → Option α) (G_g114 : {α : Type} → (List Int) → (List Int) → ((List Int) → Bool → Option α) → Option α) (G_g111 : {α : Type} → (List Int) → (List Int) → (Int → Option α) → Option α) (L_g88l0 : {α : Type} → (List Int) → (List Int) → ((List Int) → Option α) → Int → (List Int) → Option α) : Hd where
  call := fun f args Bs k => cond (Nat.beq f 94) (rowK g94tp g94bp (g94K G_g94) args Bs k) (cond (Nat.beq f 109) (rowK g109tp g109bp (g109K G_g109) args Bs k) (cond (Nat.beq f 117) (rowK g117tp g117bp (g117K G_g117) args Bs k) (cond (Nat.beq f 108) (rowK g108tp g108bp (g108K G_g108) args Bs k) (cond (Nat.beq f 114) (rowK g114tp g114bp (g114K G_g114) args Bs k) (cond (Nat.beq f 111) (rowK g111tp g111bp (g111K G_g111) args Bs k) (none))))))
  loop := fun id st k => cond (Nat.beq id 0) (loopH g88l0D (g88l0K L_g88l0) st k) (none)
  ro := fun f => []
def g88h (m : Nat) : Hd := g88hd (g94 m) (g109 m) (g117 m) (g108 m) (g114 m) (g111 m) (g88l0M m)
theorem g88l0Step (G_g94 : {α : Type} → (List Int) → (Int → Option α) → Option α) (G_g109 : {α : Type} → ((List Int) → Option α) → Option α) (G_g117 : {α : Type} → (List Int) → Int → ((List Int) → Option α) → Option α) (G_g108 : {α : Type} → (List Int) → (List Int) → ((List Int) → Bool → Option α) → Option α) (G_g114 : {α : Type} → (List Int) → (List Int) → ((List Int) → Bool → Option α) → Option α) (G_g111 : {α : Type} → (List Int) → (List Int) → (Int → Option α) → Option α) (L_g88l0 : {α : Type} → (List Int) → (List Int) → ((List Int) → Option α) → Int → (List Int) → Option α) {α : Type} (L : (List Int) → (List Int) → ((List Int) → Option α) → Int → (List Int) → Option α) (ls : List Lf) (k : Ex → St → Option α) :
    g88l0K (fun a1326 a1327 k1342 v1325 a1328 => g88l0b G_g109 G_g117 G_g108 G_g114 G_g111 a1326 a1327 k1342 (L a1326 a1327 k1342) v1325 a1328) ls k = ev tab (g88hd G_g94 G_g109 G_g117 G_g108 G_g114 G_g111 L_g88l0) (bodyAt Go.Proofs.Try.f88 0) (atHead g88l0D ls) (loopK g88l0D 0 (loopH g88l0D (g88l0K L)) k) := by kernel_rfl
theorem g88Main (G_g94 : {α : Type} → (List Int) → (Int → Option α) → Option α) (G_g109 : {α : Type} → ((List Int) → Option α) → Option α) (G_g117 : {α : Type} → (List Int) → Int → ((List Int) → Option α) → Option α) (G_g108 : {α : Type} → (List Int) → (List Int) → ((List Int) → Bool → Option α) → Option α) (G_g114 : {α : Type} → (List Int) → (List Int) → ((List Int) → Bool → Option α) → Option α) (G_g111 : {α : Type} → (List Int) → (List Int) → (Int → Option α) → Option α) (L_g88l0 : {α : Type} → (List Int) → (List Int) → ((List Int) → Option α) → Int → (List Int) → Option α) {α : Type} (ls : List Lf) (k : TV → List (List Seg) → List (List Seg) → Option α) :
    g88K (g88b G_g94 G_g109 G_g117 G_g108 G_g114 G_g111 L_g88l0) ls k = evFun tab (g88hd G_g94 G_g109 G_g117 G_g108 G_g114 G_g111 L_g88l0) Go.Proofs.Try.f88 (fillT g88tp ls).1 (fillB g88bp (fillT g88tp ls).2).1 k := by kernel_rfl
theorem g88Calls (m : Nat) : (g88h m).CallsOk Go.Proofs.Try.prog := (cok_cons (g94Ok m) (cok_cons (g109Ok m) (cok_cons (g117Ok m) (cok_cons (g108Ok m) (cok_cons (g114Ok m) (cok_cons (g111Ok m) cok_nil))))))
theorem g88l0Ok (m : Nat) (α : Type) (st : St) (k : Ex → St → Option α) (r : α) (h : (g88h m).loop 0 st k = some r) :
    ∃ e st', k e st' = some r ∧ CodeS Go.Proofs.Try.prog (.block 0 (.loop (bodyAt Go.Proofs.Try.f88 0))) st e st' :=
  loop_ok (tab := tab) (h := g88h m) (F := fun n ls k => g88l0K (fun a1326 a1327 k1342 v1325 a1328 => g88l0 (g109 m) (g117 m) (g108 m) (g114 m) (g111 m) a1326 a1327 k1342 n v1325 a1328) ls k) tabOk (g88Calls m) mixed (loopsOk_of _ (fun p hp => by rw [show loopsOf (bodyAt Go.Proofs.Try.f88 0) = [] by kernel_rfl] at hp; cases hp))
    (fun _ _ => rfl) (fun n ls k => g88l0Step (g94 m) (g109 m) (g117 m) (g108 m) (g114 m) (g111 m) (g88l0M m) (fun a1326 a1327 k1342 => g88l0 (g109 m) (g117 m) (g108 m) (g114 m) (g111 m) a1326 a1327 k1342 n) ls k) (n := m) h
theorem g88Fn (m : Nat) : FnOk Go.Proofs.Try.prog 88 g88tp g88bp (fun {α} => g88K (g88 (α := α) m)) :=
  fn_ok (tab := tab) (h := g88h m) (fn := Go.Proofs.Try.f88) (F := fun {α} => g88K (g88 (α := α) m)) tabOk (g88Calls m) mixed (by kernel_rfl) (by kernel_rfl) (fun c hc => by
    rw [bodyOf_some hc]
    exact loopsOk_of _ (fun p hp => by
    rw [show loopsOf (bodyOf Go.Proofs.Try.f88) = [(0, bodyAt Go.Proofs.Try.f88 0)] by kernel_rfl] at hp
    simp only [List.mem_cons, List.not_mem_nil, or_false] at hp
    rcases hp with rfl
    exact g88l0Ok m))
    (fun α ls k => g88Main (g94 m) (g109 m) (g117 m) (g108 m) (g114 m) (g111 m) (g88l0M m) ls k)
theorem g88Ok (m : Nat) : RowOk Go.Proofs.Try.prog 88 (fun {α} => rowK g88tp g88bp (g88K (g88 (α := α) m))) := row_of (g88Fn m)

/-! ### g44: impl.RootWide -/
def g44b {α : Type} (G_g24 : {α : Type} → Bool → (List Int) → (Bool → Option α) → Option α) (G_g88 : {α : Type} → (List Int) → ((List Int) → Option α) → Option α) (G_g67 : {α : Type} → Bool → (List Int) → (Bool → Option α) → Option α)  (q1317 : Bool) (u1318 : List Int) (k1348 : Bool → (List Int) → Int → Option α) : Option α :=
  G_g24 q1317 u1318
    (fun b1319 =>
      cond (!b1319)
       (
        k1348 false [0, 0, 0, 0, 0, 0] (1 : Int))
       (
        cond q1317
         (
          k1348 false [0, 0, 0, 0, 0, 0] (2 : Int))
         (
          G_g88 u1318
            (fun l1346 =>
              G_g67 false l1346
                (fun b1347 =>
                  k1348 b1347 l1346 (0 : Int))))))
def g44 {α : Type} (m : Nat) : Bool → (List Int) → (Bool → (List Int) → Int → Option α) → Option α :=
  g44b (g24 m) (g88 m) (g67 m)
def g44tp : List TP := [(.vl (.agg [(.one .bool), (.seq (.int .u32) 6)]))]
def g44bp : List BP := []
def g44K {α : Type} (G : Bool → (List Int) → (Bool → (List Int) → Int → Option α) → Option α) (ls : List Lf) (k : TV → List (List Seg) → List (List Seg) → Option α) : Option α :=
  G (lf ls 0).bool ((lf ls 1).lst (.int .u32))
    (fun y0 y1 y2 => k (.tup [(.agg [(.one (.bool y0)), (.seq (.int .u32) 6 y1)]), (.sv (.int .i64 y2))]) [] [])
def g44hd (G_g24 : {α : Type} → Bool → (List Int) → (Bool → Option α) → Option α) (G_g88 : {α : Type} → (List Int) → ((List Int) → Option α) → Option α) (G_g67 : {α : Type} → Bool → (List Int) → (Bool → Option α) → Option α)  : Hd where
  call := fun f args Bs k => cond (Nat.beq f 24) (rowK g24tp g24bp (g24K G_g24) args Bs k) (cond (Nat.beq f 88) (rowK g88tp g88bp (g88K G_g88) args Bs k) (cond (Nat.beq f 67) (rowK g67tp g67bp (g67K G_g67) args Bs k) (none)))
  loop := fun id st k => none
  ro := fun f => []
def g44h (m : Nat) : Hd := g44hd (g24 m) (g88 m) (g67 m)
theorem g44Main (G_g24 : {α : Type} → Bool → (List Int) → (Bool → Option α) → Option α) (G_g88 : {α : Type} → (List Int) → ((List Int) → Option α) → Option α) (G_g67 : {α : Type} → Bool → (List Int) → (Bool → Option α) → Option α)  {α : Type} (ls : List Lf) (k : TV → List (List Seg) → List (List Seg) → Option α) :
    g44K (g44b G_g24 G_g88 G_g67) ls k = evFun tab (g44hd G_g24 G_g88 G_g67) Go.Proofs.Try.f44 (fillT g44tp ls).1 (fillB g44bp (fillT g44tp ls).2).1 k := by kernel_rfl
theorem g44Calls (m : Nat) : (g44h m).CallsOk Go.Proofs.Try.prog := (cok_cons (g24Ok m) (cok_cons (g88Ok m) (cok_cons (g67Ok m) cok_nil)))
theorem g44Fn (m : Nat) : FnOk Go.Proofs.Try.prog 44 g44tp g44bp (fun {α} => g44K (g44 (α := α) m)) :=
  fn_ok (tab := tab) (h := g44h m) (fn := Go.Proofs.Try.f44) (F := fun {α} => g44K (g44 (α := α) m)) tabOk (g44Calls m) mixed (by kernel_rfl) (by kernel_rfl) (fun c hc => by
    rw [bodyOf_some hc]
    exact loopsOk_of _ (fun p hp => by rw [show loopsOf (bodyOf Go.Proofs.Try.f44) = [] by kernel_rfl] at hp; cases hp))
    (fun α ls k => g44Main (g24 m) (g88 m) (g67 m) ls k)
theorem g44Ok (m : Nat) : RowOk Go.Proofs.Try.prog 44 (fun {α} => rowK g44tp g44bp (g44K (g44 (α := α) m))) := row_of (g44Fn m)

/-! ### g19: laws.FnExactRootWide -/
def g19b {α : Type} (G_g23 : {α : Type} → Bool → (List Int) → ((List Int) → Option α) → Option α) (G_g63 : {α : Type} → Bool → (List Int) → (Bool → (List Int) → Int → Option α) → Option α) (G_g44 : {α : Type} → Bool → (List Int) → (Bool → (List Int) → Int → Option α) → Option α) (G_g27 : {α : Type} → Bool → (List Int) → Bool → (List Int) → (Bool → Option α) → Option α)  (q1264 : Bool) (u1265 : List Int) (k1355 : Bool → Option α) : Option α :=
  G_g23 q1264 u1265
    (fun l1266 =>
      G_g63 q1264 l1266
        (fun b1313 l1314 x1315 =>
          G_g23 q1264 u1265
            (fun l1316 =>
              G_g44 q1264 l1316
                (fun b1349 l1350 x1351 =>
                  G_g27 b1349 l1350 b1313 l1314
                    (fun b1352 =>
                      cond (!b1352)
                       (
                        k1355 false)
                       (
                        cond (x1351 != x1315)
                         (
                          k1355 false)
                         (
                          k1355 true)))))))
def g19 {α : Type} (m : Nat) : Bool → (List Int) → (Bool → Option α) → Option α :=
  g19b (g23 m) (g63 m) (g44 m) (g27 m)
def g19tp : List TP := [(.vl (.agg [(.one .bool), (.seq (.int .u32) 6)]))]
def g19bp : List BP := []
def g19K {α : Type} (G : Bool → (List Int) → (Bool → Option α) → Option α) (ls : List Lf) (k : TV → List (List Seg) → List (List Seg) → Option α) : Option α :=
  G (lf ls 0).bool ((lf ls 1).lst (.int .u32))
    (fun y0 => k (.vl (.sv (.bool y0))) [] [])
def g19hd (G_g23 : {α : Type} → Bool → (List Int) → ((List Int) → Option α) → Option α) (G_g63 : {α : Type} → Bool → (List Int) → (Bool → (List Int) → Int → Option α) → Option α) (G_g44 : {α : Type} → Bool → (List Int) → (Bool → (List Int) → Int → Option α) → Option α) (G_g27 : {α : Type} → Bool → (List Int) → Bool → (List Int) → (Bool → Option α) → Option α)  : Hd where
  call := fun f args Bs k => cond (Nat.beq f 23) (rowK g23tp g23bp (g23K G_g23) args Bs k) (cond (Nat.beq f 63) (rowK g63tp g63bp (g63K G_g63) args Bs k) (cond (Nat.beq f 44) (rowK g44tp g44bp (g44K G_g44) args Bs k) (cond (Nat.beq f 27) (rowK g27tp g27bp (g27K G_g27) args Bs k) (none))))
  loop := fun id st k => none
  ro := fun f => []
def g19h (m : Nat) : Hd := g19hd (g23 m) (g63 m) (g44 m) (g27 m)
theorem g19Main (G_g23 : {α : Type} → Bool → (List Int) → ((List Int) → Option α) → Option α) (G_g63 : {α : Type} → Bool → (List Int) → (Bool → (List Int) → Int → Option α) → Option α) (G_g44 : {α : Type} → Bool → (List Int) → (Bool → (List Int) → Int → Option α) → Option α) (G_g27 : {α : Type} → Bool → (List Int) → Bool → (List Int) → (Bool → Option α) → Option α)  {α : Type} (ls : List Lf) (k : TV → List (List Seg) → List (List Seg) → Option α) :
    g19K (g19b G_g23 G_g63 G_g44 G_g27) ls k = evFun tab (g19hd G_g23 G_g63 G_g44 G_g27) Go.Proofs.Try.f19 (fillT g19tp ls).1 (fillB g19bp (fillT g19tp ls).2).1 k := by kernel_rfl
theorem g19Calls (m : Nat) : (g19h m).CallsOk Go.Proofs.Try.prog := (cok_cons (g23Ok m) (cok_cons (g63Ok m) (cok_cons (g44Ok m) (cok_cons (g27Ok m) cok_nil))))
theorem g19Fn (m : Nat) : FnOk Go.Proofs.Try.prog 19 g19tp g19bp (fun {α} => g19K (g19 (α := α) m)) :=
  fn_ok (tab := tab) (h := g19h m) (fn := Go.Proofs.Try.f19) (F := fun {α} => g19K (g19 (α := α) m)) tabOk (g19Calls m) mixed (by kernel_rfl) (by kernel_rfl) (fun c hc => by
    rw [bodyOf_some hc]
    exact loopsOk_of _ (fun p hp => by rw [show loopsOf (bodyOf Go.Proofs.Try.f19) = [] by kernel_rfl] at hp; cases hp))
    (fun α ls k => g19Main (g23 m) (g63 m) (g44 m) (g27 m) ls k)
theorem g19Ok (m : Nat) : RowOk Go.Proofs.Try.prog 19 (fun {α} => rowK g19tp g19bp (g19K (g19 (α := α) m))) := row_of (g19Fn m)
end Go.Proofs.Ytcccndkeaichcaa.Sx
