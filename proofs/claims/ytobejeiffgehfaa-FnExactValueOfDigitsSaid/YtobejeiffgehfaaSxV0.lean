/- Functions. Printed by our own sx.py. -/
import Derived.Test.YtobejeiffgehfaaSxT
namespace Go.Proofs.Ytobejeiffgehfaa.Sx
open Go
set_option linter.unusedVariables false
set_option maxRecDepth 100000
/-! ### g48: laws.toUint32A6 -/
def g48l0b {α : Type}   (a13 : List Int) (a14 : List Int) (k20 : (List Int) → Option α) (r21 : Int → (List Int) → Option α) (v12 : Int) (a15 : List Int) : Option α :=
  cond (decide (v12 < (6 : Int)))
   (
    if 0 ≤ v12 ∧ v12 < (6 : Nat) then
      if v12.toNat < 6 then
        if 0 ≤ v12 ∧ v12 < (6 : Nat) then
          if v12.toNat < 6 then
            r21 (IntKind.wrap .i64 (v12 + (1 : Int))) (List.set a15 (v12.toNat) (List.getD a13 v12.toNat 0))
          else
            none
        else
          none
      else
        none
    else
      none)
   (
    k20 a15)
def g48l0 {α : Type}   (a13 : List Int) (a14 : List Int) (k20 : (List Int) → Option α) : Nat → Int → (List Int) → Option α
  | 0 => fun _ _ => none
  | m + 1 => fun v12 a15 => g48l0b a13 a14 k20 (g48l0 a13 a14 k20 m) v12 a15
def g48l0M {α : Type} (m : Nat) : (List Int) → (List Int) → ((List Int) → Option α) → Int → (List Int) → Option α :=
  fun a13 a14 k20 v12 a15 => g48l0 a13 a14 k20 m v12 a15
def g48l0D : LoopD := { n := 15, low := [], sl := [1, 2, 3, 4], bl := [1000000, 1000001, 1000002], tp := [(.vl (.sv (.ptr 1000000 0))), (.vl (.sv (.ptr 1000001 0))), (.vl (.sv (.ptr 1000002 0))), (.vl (.sv (.int .i64)))], bp := [(true, [(.seq (.int .u32) 6)]), (true, [(.seq (.int .u32) 6)]), (true, [(.seq (.int .u32) 6)])], xs := [(2, [2, 3])] }
def g48l0K {α : Type} (L : (List Int) → (List Int) → ((List Int) → Option α) → Int → (List Int) → Option α) (ls : List Lf) (k : Ex → St → Option α) : Option α :=
  L ((lf ls 1).lst (.int .u32)) ((lf ls 2).lst (.int .u32))
    (fun y1 => k .normal (mkSt 15 [2, 3] [(.vl (.sv (.ptr 1000000 0))), (.vl (.sv (.ptr 1000001 0)))] [1000000, 1000001] [(true, [(.seq (.int .u32) 6 ((lf ls 2).lst (.int .u32)))]), (true, [(.seq (.int .u32) 6 y1)])]))
    (lf ls 0).int ((lf ls 3).lst (.int .u32))
def g48b {α : Type}  (L_g48l0 : {α : Type} → (List Int) → (List Int) → ((List Int) → Option α) → Int → (List Int) → Option α) (u11 : List Int) (k23 : (List Int) → Option α) : Option α :=
  L_g48l0 u11 [0, 0, 0, 0, 0, 0]
    (fun l22 =>
      k23 l22)
    (0 : Int) [0, 0, 0, 0, 0, 0]
def g48 {α : Type} (m : Nat) : (List Int) → ((List Int) → Option α) → Option α :=
  g48b (g48l0M m)
def g48tp : List TP := [(.vl (.agg [(.seq (.int .u32) 6)]))]
def g48bp : List BP := []
def g48K {α : Type} (G : (List Int) → ((List Int) → Option α) → Option α) (ls : List Lf) (k : TV → List (List Seg) → List (List Seg) → Option α) : Option α :=
  G ((lf ls 0).lst (.int .u32))
    (fun y0 => k (.vl (.agg [(.seq (.int .u32) 6 y0)])) [] [])
def g48hd  (L_g48l0 : {α : Type} → (List Int) → (List Int) → ((List Int) → Option α) → Int → (List Int) → Option α) : Hd where
  call := fun f args Bs k => none
  loop := fun id st k => cond (Nat.beq id 0) (loopH g48l0D (g48l0K L_g48l0) st k) (none)
  ro := fun f => []
def g48h (m : Nat) : Hd := g48hd (g48l0M m)
theorem g48l0Step  (L_g48l0 : {α : Type} → (List Int) → (List Int) → ((List Int) → Option α) → Int → (List Int) → Option α) {α : Type} (L : (List Int) → (List Int) → ((List Int) → Option α) → Int → (List Int) → Option α) (ls : List Lf) (k : Ex → St → Option α) :
    g48l0K (fun a13 a14 k20 v12 a15 => g48l0b a13 a14 k20 (L a13 a14 k20) v12 a15) ls k = ev tab (g48hd L_g48l0) (bodyAt Go.Proofs.Try.f48 0) (atHead g48l0D ls) (loopK g48l0D 0 (loopH g48l0D (g48l0K L)) k) := by kernel_rfl
theorem g48Main  (L_g48l0 : {α : Type} → (List Int) → (List Int) → ((List Int) → Option α) → Int → (List Int) → Option α) {α : Type} (ls : List Lf) (k : TV → List (List Seg) → List (List Seg) → Option α) :
    g48K (g48b L_g48l0) ls k = evFun tab (g48hd L_g48l0) Go.Proofs.Try.f48 (fillT g48tp ls).1 (fillB g48bp (fillT g48tp ls).2).1 k := by kernel_rfl
theorem g48Calls (m : Nat) : (g48h m).CallsOk Go.Proofs.Try.prog := cok_nil
theorem g48l0Ok (m : Nat) (α : Type) (st : St) (k : Ex → St → Option α) (r : α) (h : (g48h m).loop 0 st k = some r) :
    ∃ e st', k e st' = some r ∧ CodeS Go.Proofs.Try.prog (.block 0 (.loop (bodyAt Go.Proofs.Try.f48 0))) st e st' :=
  loop_ok (tab := tab) (h := g48h m) (F := fun n ls k => g48l0K (fun a13 a14 k20 v12 a15 => g48l0 a13 a14 k20 n v12 a15) ls k) tabOk (g48Calls m) mixed (loopsOk_of _ (fun p hp => by rw [show loopsOf (bodyAt Go.Proofs.Try.f48 0) = [] by kernel_rfl] at hp; cases hp))
    (fun _ _ => rfl) (fun n ls k => g48l0Step (g48l0M m) (fun a13 a14 k20 => g48l0 a13 a14 k20 n) ls k) (n := m) h
theorem g48Fn (m : Nat) : FnOk Go.Proofs.Try.prog 48 g48tp g48bp (fun {α} => g48K (g48 (α := α) m)) :=
  fn_ok (tab := tab) (h := g48h m) (fn := Go.Proofs.Try.f48) (F := fun {α} => g48K (g48 (α := α) m)) tabOk (g48Calls m) mixed (by kernel_rfl) (by kernel_rfl) (fun c hc => by
    rw [bodyOf_some hc]
    exact loopsOk_of _ (fun p hp => by
    rw [show loopsOf (bodyOf Go.Proofs.Try.f48) = [(0, bodyAt Go.Proofs.Try.f48 0)] by kernel_rfl] at hp
    simp only [List.mem_cons, List.not_mem_nil, or_false] at hp
    rcases hp with rfl
    exact g48l0Ok m))
    (fun α ls k => g48Main (g48l0M m) ls k)
theorem g48Ok (m : Nat) : RowOk Go.Proofs.Try.prog 48 (fun {α} => rowK g48tp g48bp (g48K (g48 (α := α) m))) := row_of (g48Fn m)

/-! ### g19: laws.toWide -/
def g19b {α : Type} (G_g48 : {α : Type} → (List Int) → ((List Int) → Option α) → Option α)  (q9 : Bool) (u10 : List Int) (k25 : (List Int) → Option α) : Option α :=
  G_g48 u10
    (fun l24 =>
      k25 l24)
def g19 {α : Type} (m : Nat) : Bool → (List Int) → ((List Int) → Option α) → Option α :=
  g19b (g48 m)
def g19tp : List TP := [(.vl (.agg [(.one .bool), (.seq (.int .u32) 6)]))]
def g19bp : List BP := []
def g19K {α : Type} (G : Bool → (List Int) → ((List Int) → Option α) → Option α) (ls : List Lf) (k : TV → List (List Seg) → List (List Seg) → Option α) : Option α :=
  G (lf ls 0).bool ((lf ls 1).lst (.int .u32))
    (fun y1 => k (.vl (.agg [(.one (.bool (lf ls 0).bool)), (.seq (.int .u32) 6 y1)])) [] [])
def g19hd (G_g48 : {α : Type} → (List Int) → ((List Int) → Option α) → Option α)  : Hd where
  call := fun f args Bs k => cond (Nat.beq f 48) (rowK g48tp g48bp (g48K G_g48) args Bs k) (none)
  loop := fun id st k => none
  ro := fun f => []
def g19h (m : Nat) : Hd := g19hd (g48 m)
theorem g19Main (G_g48 : {α : Type} → (List Int) → ((List Int) → Option α) → Option α)  {α : Type} (ls : List Lf) (k : TV → List (List Seg) → List (List Seg) → Option α) :
    g19K (g19b G_g48) ls k = evFun tab (g19hd G_g48) Go.Proofs.Try.f19 (fillT g19tp ls).1 (fillB g19bp (fillT g19tp ls).2).1 k := by kernel_rfl
theorem g19Calls (m : Nat) : (g19h m).CallsOk Go.Proofs.Try.prog := (cok_cons (g48Ok m) cok_nil)
theorem g19Fn (m : Nat) : FnOk Go.Proofs.Try.prog 19 g19tp g19bp (fun {α} => g19K (g19 (α := α) m)) :=
  fn_ok (tab := tab) (h := g19h m) (fn := Go.Proofs.Try.f19) (F := fun {α} => g19K (g19 (α := α) m)) tabOk (g19Calls m) mixed (by kernel_rfl) (by kernel_rfl) (fun c hc => by
    rw [bodyOf_some hc]
    exact loopsOk_of _ (fun p hp => by rw [show loopsOf (bodyOf Go.Proofs.Try.f19) = [] by kernel_rfl] at hp; cases hp))
    (fun α ls k => g19Main (g48 m) ls k)
theorem g19Ok (m : Nat) : RowOk Go.Proofs.Try.prog 19 (fun {α} => rowK g19tp g19bp (g19K (g19 (α := α) m))) := row_of (g19Fn m)

/-! ### g20: laws.toInt8S -/
def g20l0b {α : Type}   (m33 : Nat) (m34 : Nat) (m35 : Nat) (m36 : Nat) (m37 : Nat) (m38 : Nat) (m40 : Nat) (a41 : List Int) (m42 : Nat) (k48 : (List Int) → Option α) (r49 : Int → (List Int) → Option α) (v39 : Int) (a43 : List Int) : Option α :=
  cond (decide (v39 < ((m34 : Nat) : Int)))
   (
    if 0 ≤ v39 ∧ v39 < (m34 : Nat) then
      if (m33 + v39.toNat) < m40 then
        if 0 ≤ v39 ∧ v39 < (m37 : Nat) then
          if (m36 + v39.toNat) < m42 then
            r49 (IntKind.wrap .i64 (v39 + (1 : Int))) (List.set a43 (m36 + v39.toNat) (List.getD a41 (m33 + v39.toNat) 0))
          else
            none
        else
          none
      else
        none
    else
      none)
   (
    k48 a43)
def g20l0 {α : Type}   (m33 : Nat) (m34 : Nat) (m35 : Nat) (m36 : Nat) (m37 : Nat) (m38 : Nat) (m40 : Nat) (a41 : List Int) (m42 : Nat) (k48 : (List Int) → Option α) : Nat → Int → (List Int) → Option α
  | 0 => fun _ _ => none
  | m + 1 => fun v39 a43 => g20l0b m33 m34 m35 m36 m37 m38 m40 a41 m42 k48 (g20l0 m33 m34 m35 m36 m37 m38 m40 a41 m42 k48 m) v39 a43
def g20l0M {α : Type} (m : Nat) : Nat → Nat → Nat → Nat → Nat → Nat → Nat → (List Int) → Nat → ((List Int) → Option α) → Int → (List Int) → Option α :=
  fun m33 m34 m35 m36 m37 m38 m40 a41 m42 k48 v39 a43 => g20l0 m33 m34 m35 m36 m37 m38 m40 a41 m42 k48 m v39 a43
def g20l0D : LoopD := { n := 22, low := [0], sl := [0, 3, 4], bl := [0, 1000001], tp := [(.vl (.sv (.sla 0 0 1))), (.vl (.sv (.slc 1000001 0 1))), (.vl (.sv (.int .i64)))], bp := [(false, [(.seqv (.int .i8))]), (true, [(.seqv (.int .i8))])], xs := [(2, [3])] }
def g20l0K {α : Type} (L : Nat → Nat → Nat → Nat → Nat → Nat → Nat → (List Int) → Nat → ((List Int) → Option α) → Int → (List Int) → Option α) (ls : List Lf) (k : Ex → St → Option α) : Option α :=
  L (lf ls 0).nat (lf ls 1).nat (lf ls 2).nat (lf ls 3).nat (lf ls 4).nat (lf ls 5).nat (lf ls 7).nat ((lf ls 8).lst (.int .i8)) (lf ls 9).nat
    (fun y6 => k .normal (mkSt 22 [3] [(.vl (.sv (.slc 1000001 0 1 (lf ls 3).nat (lf ls 4).nat (lf ls 5).nat)))] [0, 1000001] [(false, [(.seq (.int .i8) (lf ls 7).nat ((lf ls 8).lst (.int .i8)))]), (true, [(.seq (.int .i8) (lf ls 9).nat y6)])]))
    (lf ls 6).int ((lf ls 10).lst (.int .i8))
def g20b {α : Type}  (L_g20l0 : {α : Type} → Nat → Nat → Nat → Nat → Nat → Nat → Nat → (List Int) → Nat → ((List Int) → Option α) → Int → (List Int) → Option α) (m27 : Nat) (m28 : Nat) (m29 : Nat) (m30 : Nat) (u31 : List Int) (k51 : (List Int) → Option α) : Option α :=
  if ((m28 : Nat) : Int) = ((m28 : Nat) : Int) ∧ 0 ≤ ((m28 : Nat) : Int) ∧ ((m28 : Nat) : Int) ≤ 1048576 then
    L_g20l0 m27 m28 m29 0 m28 m28 m30 u31 m28
      (fun l50 =>
        k51 l50)
      (0 : Int) (List.replicate m28 (0 : Int))
  else
    none
def g20 {α : Type} (m : Nat) : Nat → Nat → Nat → Nat → (List Int) → ((List Int) → Option α) → Option α :=
  g20b (g20l0M m)
def g20tp : List TP := [(.vl (.sv (.sla 0 0 1)))]
def g20bp : List BP := [(false, [(.seqv (.int .i8))])]
def g20K {α : Type} (G : Nat → Nat → Nat → Nat → (List Int) → ((List Int) → Option α) → Option α) (ls : List Lf) (k : TV → List (List Seg) → List (List Seg) → Option α) : Option α :=
  G (lf ls 0).nat (lf ls 1).nat (lf ls 2).nat (lf ls 3).nat ((lf ls 4).lst (.int .i8))
    (fun y6 => k (.vl (.sv (.slc 1 0 1 0 (lf ls 1).nat (lf ls 1).nat))) [[(.seq (.int .i8) (lf ls 3).nat ((lf ls 4).lst (.int .i8)))]] [[(.seq (.int .i8) (lf ls 1).nat y6)]])
def g20hd  (L_g20l0 : {α : Type} → Nat → Nat → Nat → Nat → Nat → Nat → Nat → (List Int) → Nat → ((List Int) → Option α) → Int → (List Int) → Option α) : Hd where
  call := fun f args Bs k => none
  loop := fun id st k => cond (Nat.beq id 0) (loopH g20l0D (g20l0K L_g20l0) st k) (none)
  ro := fun f => []
def g20h (m : Nat) : Hd := g20hd (g20l0M m)
theorem g20l0Step  (L_g20l0 : {α : Type} → Nat → Nat → Nat → Nat → Nat → Nat → Nat → (List Int) → Nat → ((List Int) → Option α) → Int → (List Int) → Option α) {α : Type} (L : Nat → Nat → Nat → Nat → Nat → Nat → Nat → (List Int) → Nat → ((List Int) → Option α) → Int → (List Int) → Option α) (ls : List Lf) (k : Ex → St → Option α) :
    g20l0K (fun m33 m34 m35 m36 m37 m38 m40 a41 m42 k48 v39 a43 => g20l0b m33 m34 m35 m36 m37 m38 m40 a41 m42 k48 (L m33 m34 m35 m36 m37 m38 m40 a41 m42 k48) v39 a43) ls k = ev tab (g20hd L_g20l0) (bodyAt Go.Proofs.Try.f20 0) (atHead g20l0D ls) (loopK g20l0D 0 (loopH g20l0D (g20l0K L)) k) := by kernel_rfl
theorem g20Main  (L_g20l0 : {α : Type} → Nat → Nat → Nat → Nat → Nat → Nat → Nat → (List Int) → Nat → ((List Int) → Option α) → Int → (List Int) → Option α) {α : Type} (ls : List Lf) (k : TV → List (List Seg) → List (List Seg) → Option α) :
    g20K (g20b L_g20l0) ls k = evFun tab (g20hd L_g20l0) Go.Proofs.Try.f20 (fillT g20tp ls).1 (fillB g20bp (fillT g20tp ls).2).1 k := by kernel_rfl
theorem g20Calls (m : Nat) : (g20h m).CallsOk Go.Proofs.Try.prog := cok_nil
theorem g20l0Ok (m : Nat) (α : Type) (st : St) (k : Ex → St → Option α) (r : α) (h : (g20h m).loop 0 st k = some r) :
    ∃ e st', k e st' = some r ∧ CodeS Go.Proofs.Try.prog (.block 0 (.loop (bodyAt Go.Proofs.Try.f20 0))) st e st' :=
  loop_ok (tab := tab) (h := g20h m) (F := fun n ls k => g20l0K (fun m33 m34 m35 m36 m37 m38 m40 a41 m42 k48 v39 a43 => g20l0 m33 m34 m35 m36 m37 m38 m40 a41 m42 k48 n v39 a43) ls k) tabOk (g20Calls m) mixed (loopsOk_of _ (fun p hp => by rw [show loopsOf (bodyAt Go.Proofs.Try.f20 0) = [] by kernel_rfl] at hp; cases hp))
    (fun _ _ => rfl) (fun n ls k => g20l0Step (g20l0M m) (fun m33 m34 m35 m36 m37 m38 m40 a41 m42 k48 => g20l0 m33 m34 m35 m36 m37 m38 m40 a41 m42 k48 n) ls k) (n := m) h
theorem g20Fn (m : Nat) : FnOk Go.Proofs.Try.prog 20 g20tp g20bp (fun {α} => g20K (g20 (α := α) m)) :=
  fn_ok (tab := tab) (h := g20h m) (fn := Go.Proofs.Try.f20) (F := fun {α} => g20K (g20 (α := α) m)) tabOk (g20Calls m) mixed (by kernel_rfl) (by kernel_rfl) (fun c hc => by
    rw [bodyOf_some hc]
    exact loopsOk_of _ (fun p hp => by
    rw [show loopsOf (bodyOf Go.Proofs.Try.f20) = [(0, bodyAt Go.Proofs.Try.f20 0)] by kernel_rfl] at hp
    simp only [List.mem_cons, List.not_mem_nil, or_false] at hp
    rcases hp with rfl
    exact g20l0Ok m))
    (fun α ls k => g20Main (g20l0M m) ls k)
theorem g20Ok (m : Nat) : RowOk Go.Proofs.Try.prog 20 (fun {α} => rowK g20tp g20bp (g20K (g20 (α := α) m))) := row_of (g20Fn m)

/-! ### g46: spec.l01Ok -/
def g46b {α : Type}   (q60 : Bool) (u61 : List Int) (k64 : Bool → Option α) : Option α :=
  cond (!q60)
   (
    k64 true)
   (
    k64 (!(eqLI u61 [0, 0, 0, 0, 0, 0])))
def g46 {α : Type} (m : Nat) : Bool → (List Int) → (Bool → Option α) → Option α :=
  g46b
def g46tp : List TP := [(.vl (.sv (.ptr 0 0)))]
def g46bp : List BP := [(false, [(.one .bool), (.seq (.int .u32) 6)])]
def g46K {α : Type} (G : Bool → (List Int) → (Bool → Option α) → Option α) (ls : List Lf) (k : TV → List (List Seg) → List (List Seg) → Option α) : Option α :=
  G (lf ls 0).bool ((lf ls 1).lst (.int .u32))
    (fun y0 => k (.vl (.sv (.bool y0))) [[(.one (.bool (lf ls 0).bool)), (.seq (.int .u32) 6 ((lf ls 1).lst (.int .u32)))]] [])
def g46hd   : Hd where
  call := fun f args Bs k => none
  loop := fun id st k => none
  ro := fun f => []
def g46h (m : Nat) : Hd := g46hd
theorem g46Main   {α : Type} (ls : List Lf) (k : TV → List (List Seg) → List (List Seg) → Option α) :
    g46K (g46b) ls k = evFun tab (g46hd) Go.Proofs.Try.f46 (fillT g46tp ls).1 (fillB g46bp (fillT g46tp ls).2).1 k := by kernel_rfl
theorem g46Calls (m : Nat) : (g46h m).CallsOk Go.Proofs.Try.prog := cok_nil
theorem g46Fn (m : Nat) : FnOk Go.Proofs.Try.prog 46 g46tp g46bp (fun {α} => g46K (g46 (α := α) m)) :=
  fn_ok (tab := tab) (h := g46h m) (fn := Go.Proofs.Try.f46) (F := fun {α} => g46K (g46 (α := α) m)) tabOk (g46Calls m) mixed (by kernel_rfl) (by kernel_rfl) (fun c hc => by
    rw [bodyOf_some hc]
    exact loopsOk_of _ (fun p hp => by rw [show loopsOf (bodyOf Go.Proofs.Try.f46) = [] by kernel_rfl] at hp; cases hp))
    (fun α ls k => g46Main ls k)
theorem g46Ok (m : Nat) : RowOk Go.Proofs.Try.prog 46 (fun {α} => rowK g46tp g46bp (g46K (g46 (α := α) m))) := row_of (g46Fn m)

/-! ### g89: spec.l01Plus -/
def g89l0b {α : Type}   (a114 : List Int) (a115 : List Int) (a116 : List Int) (k129 : Int → (List Int) → Option α) (r130 : Int → Int → (List Int) → Option α) (v112 : Int) (v113 : Int) (a117 : List Int) : Option α :=
  cond (decide (v113 < (6 : Int)))
   (
    if 0 ≤ v113 ∧ v113 < (6 : Nat) then
      if v113.toNat < 6 then
        if 0 ≤ v113 ∧ v113 < (6 : Nat) then
          if v113.toNat < 6 then
            let x124 : Int := IntKind.wrap .u64 ((IntKind.wrap .u64 ((IntKind.wrap .u64 (List.getD a114 v113.toNat 0)) + (IntKind.wrap .u64 (List.getD a115 v113.toNat 0)))) + v112)
            if 0 ≤ v113 ∧ v113 < (6 : Nat) then
              if v113.toNat < 6 then
                r130 (Int.fdiv x124 (2 ^ 32)) (IntKind.wrap .i64 (v113 + (1 : Int))) (List.set a117 (v113.toNat) (IntKind.wrap .u32 x124))
              else
                none
            else
              none
          else
            none
        else
          none
      else
        none
    else
      none)
   (
    k129 v112 a117)
def g89l0 {α : Type}   (a114 : List Int) (a115 : List Int) (a116 : List Int) (k129 : Int → (List Int) → Option α) : Nat → Int → Int → (List Int) → Option α
  | 0 => fun _ _ _ => none
  | m + 1 => fun v112 v113 a117 => g89l0b a114 a115 a116 k129 (g89l0 a114 a115 a116 k129 m) v112 v113 a117
def g89l0M {α : Type} (m : Nat) : (List Int) → (List Int) → (List Int) → (Int → (List Int) → Option α) → Int → Int → (List Int) → Option α :=
  fun a114 a115 a116 k129 v112 v113 a117 => g89l0 a114 a115 a116 k129 m v112 v113 a117
def g89l0D : LoopD := { n := 39, low := [0, 1], sl := [0, 1, 4, 6, 7, 8], bl := [0, 1, 1000002, 1000003], tp := [(.vl (.sv (.ptr 0 0))), (.vl (.sv (.ptr 1 0))), (.vl (.sv (.ptr 1000002 0))), (.vl (.sv (.ptr 1000003 0))), (.vl (.sv (.int .u64))), (.vl (.sv (.int .i64)))], bp := [(false, [(.seq (.int .u32) 6)]), (false, [(.seq (.int .u32) 6)]), (true, [(.seq (.int .u32) 6)]), (true, [(.seq (.int .u32) 6)])], xs := [(2, [4, 6, 7])] }
def g89l0K {α : Type} (L : (List Int) → (List Int) → (List Int) → (Int → (List Int) → Option α) → Int → Int → (List Int) → Option α) (ls : List Lf) (k : Ex → St → Option α) : Option α :=
  L ((lf ls 2).lst (.int .u32)) ((lf ls 3).lst (.int .u32)) ((lf ls 4).lst (.int .u32))
    (fun y0 y4 => k .normal (mkSt 39 [4, 6, 7] [(.vl (.sv (.ptr 1000002 0))), (.vl (.sv (.ptr 1000003 0))), (.vl (.sv (.int .u64 y0)))] [0, 1, 1000002, 1000003] [(false, [(.seq (.int .u32) 6 ((lf ls 2).lst (.int .u32)))]), (false, [(.seq (.int .u32) 6 ((lf ls 3).lst (.int .u32)))]), (true, [(.seq (.int .u32) 6 ((lf ls 4).lst (.int .u32)))]), (true, [(.seq (.int .u32) 6 y4)])]))
    (lf ls 0).int (lf ls 1).int ((lf ls 5).lst (.int .u32))
def g89b {α : Type}  (L_g89l0 : {α : Type} → (List Int) → (List Int) → (List Int) → (Int → (List Int) → Option α) → Int → Int → (List Int) → Option α) (u110 : List Int) (u111 : List Int) (k134 : (List Int) → Bool → Option α) : Option α :=
  L_g89l0 u110 u111 [0, 0, 0, 0, 0, 0]
    (fun x131 l132 =>
      k134 l132 (x131 == (0 : Int)))
    (0 : Int) (0 : Int) [0, 0, 0, 0, 0, 0]
def g89 {α : Type} (m : Nat) : (List Int) → (List Int) → ((List Int) → Bool → Option α) → Option α :=
  g89b (g89l0M m)
def g89tp : List TP := [(.vl (.sv (.ptr 0 0))), (.vl (.sv (.ptr 1 0)))]
def g89bp : List BP := [(false, [(.seq (.int .u32) 6)]), (false, [(.seq (.int .u32) 6)])]
def g89K {α : Type} (G : (List Int) → (List Int) → ((List Int) → Bool → Option α) → Option α) (ls : List Lf) (k : TV → List (List Seg) → List (List Seg) → Option α) : Option α :=
  G ((lf ls 0).lst (.int .u32)) ((lf ls 1).lst (.int .u32))
    (fun y0 y1 => k (.tup [(.agg [(.seq (.int .u32) 6 y0)]), (.sv (.bool y1))]) [[(.seq (.int .u32) 6 ((lf ls 0).lst (.int .u32)))], [(.seq (.int .u32) 6 ((lf ls 1).lst (.int .u32)))]] [])
def g89hd  (L_g89l0 : {α : Type} → (List Int) → (List Int) → (List Int) → (Int → (List Int) → Option α) → Int → Int → (List Int) → Option α) : Hd where
  call := fun f args Bs k => none
  loop := fun id st k => cond (Nat.beq id 0) (loopH g89l0D (g89l0K L_g89l0) st k) (none)
  ro := fun f => []
def g89h (m : Nat) : Hd := g89hd (g89l0M m)
theorem g89l0Step  (L_g89l0 : {α : Type} → (List Int) → (List Int) → (List Int) → (Int → (List Int) → Option α) → Int → Int → (List Int) → Option α) {α : Type} (L : (List Int) → (List Int) → (List Int) → (Int → (List Int) → Option α) → Int → Int → (List Int) → Option α) (ls : List Lf) (k : Ex → St → Option α) :
    g89l0K (fun a114 a115 a116 k129 v112 v113 a117 => g89l0b a114 a115 a116 k129 (L a114 a115 a116 k129) v112 v113 a117) ls k = ev tab (g89hd L_g89l0) (bodyAt Go.Proofs.Try.f89 0) (atHead g89l0D ls) (loopK g89l0D 0 (loopH g89l0D (g89l0K L)) k) := by kernel_rfl
theorem g89Main  (L_g89l0 : {α : Type} → (List Int) → (List Int) → (List Int) → (Int → (List Int) → Option α) → Int → Int → (List Int) → Option α) {α : Type} (ls : List Lf) (k : TV → List (List Seg) → List (List Seg) → Option α) :
    g89K (g89b L_g89l0) ls k = evFun tab (g89hd L_g89l0) Go.Proofs.Try.f89 (fillT g89tp ls).1 (fillB g89bp (fillT g89tp ls).2).1 k := by kernel_rfl
theorem g89Calls (m : Nat) : (g89h m).CallsOk Go.Proofs.Try.prog := cok_nil
theorem g89l0Ok (m : Nat) (α : Type) (st : St) (k : Ex → St → Option α) (r : α) (h : (g89h m).loop 0 st k = some r) :
    ∃ e st', k e st' = some r ∧ CodeS Go.Proofs.Try.prog (.block 0 (.loop (bodyAt Go.Proofs.Try.f89 0))) st e st' :=
  loop_ok (tab := tab) (h := g89h m) (F := fun n ls k => g89l0K (fun a114 a115 a116 k129 v112 v113 a117 => g89l0 a114 a115 a116 k129 n v112 v113 a117) ls k) tabOk (g89Calls m) mixed (loopsOk_of _ (fun p hp => by rw [show loopsOf (bodyAt Go.Proofs.Try.f89 0) = [] by kernel_rfl] at hp; cases hp))
    (fun _ _ => rfl) (fun n ls k => g89l0Step (g89l0M m) (fun a114 a115 a116 k129 => g89l0 a114 a115 a116 k129 n) ls k) (n := m) h
theorem g89Fn (m : Nat) : FnOk Go.Proofs.Try.prog 89 g89tp g89bp (fun {α} => g89K (g89 (α := α) m)) :=
  fn_ok (tab := tab) (h := g89h m) (fn := Go.Proofs.Try.f89) (F := fun {α} => g89K (g89 (α := α) m)) tabOk (g89Calls m) mixed (by kernel_rfl) (by kernel_rfl) (fun c hc => by
    rw [bodyOf_some hc]
    exact loopsOk_of _ (fun p hp => by
    rw [show loopsOf (bodyOf Go.Proofs.Try.f89) = [(0, bodyAt Go.Proofs.Try.f89 0)] by kernel_rfl] at hp
    simp only [List.mem_cons, List.not_mem_nil, or_false] at hp
    rcases hp with rfl
    exact g89l0Ok m))
    (fun α ls k => g89Main (g89l0M m) ls k)
theorem g89Ok (m : Nat) : RowOk Go.Proofs.Try.prog 89 (fun {α} => rowK g89tp g89bp (g89K (g89 (α := α) m))) := row_of (g89Fn m)

/-! ### g102: spec.l01Zero -/
def g102b {α : Type}   (u140 : List Int) (k142 : Bool → Option α) : Option α :=
  k142 (eqLI u140 [0, 0, 0, 0, 0, 0])
def g102 {α : Type} (m : Nat) : (List Int) → (Bool → Option α) → Option α :=
  g102b
def g102tp : List TP := [(.vl (.sv (.ptr 0 0)))]
def g102bp : List BP := [(false, [(.seq (.int .u32) 6)])]
def g102K {α : Type} (G : (List Int) → (Bool → Option α) → Option α) (ls : List Lf) (k : TV → List (List Seg) → List (List Seg) → Option α) : Option α :=
  G ((lf ls 0).lst (.int .u32))
    (fun y0 => k (.vl (.sv (.bool y0))) [[(.seq (.int .u32) 6 ((lf ls 0).lst (.int .u32)))]] [])
def g102hd   : Hd where
  call := fun f args Bs k => none
  loop := fun id st k => none
  ro := fun f => []
def g102h (m : Nat) : Hd := g102hd
theorem g102Main   {α : Type} (ls : List Lf) (k : TV → List (List Seg) → List (List Seg) → Option α) :
    g102K (g102b) ls k = evFun tab (g102hd) Go.Proofs.Try.f102 (fillT g102tp ls).1 (fillB g102bp (fillT g102tp ls).2).1 k := by kernel_rfl
theorem g102Calls (m : Nat) : (g102h m).CallsOk Go.Proofs.Try.prog := cok_nil
theorem g102Fn (m : Nat) : FnOk Go.Proofs.Try.prog 102 g102tp g102bp (fun {α} => g102K (g102 (α := α) m)) :=
  fn_ok (tab := tab) (h := g102h m) (fn := Go.Proofs.Try.f102) (F := fun {α} => g102K (g102 (α := α) m)) tabOk (g102Calls m) mixed (by kernel_rfl) (by kernel_rfl) (fun c hc => by
    rw [bodyOf_some hc]
    exact loopsOk_of _ (fun p hp => by rw [show loopsOf (bodyOf Go.Proofs.Try.f102) = [] by kernel_rfl] at hp; cases hp))
    (fun α ls k => g102Main ls k)
theorem g102Ok (m : Nat) : RowOk Go.Proofs.Try.prog 102 (fun {α} => rowK g102tp g102bp (g102K (g102 (α := α) m))) := row_of (g102Fn m)

/-! ### g88: spec.l01Made -/
def g88b {α : Type} (G_g102 : {α : Type} → (List Int) → (Bool → Option α) → Option α)  (q138 : Bool) (u139 : List Int) (k145 : Bool → Option α) : Option α :=
  cond q138
   (
    G_g102 u139
      (fun b143 =>
        k145 (!b143)))
   (
    k145 false)
def g88 {α : Type} (m : Nat) : Bool → (List Int) → (Bool → Option α) → Option α :=
  g88b (g102 m)
def g88tp : List TP := [(.vl (.sv .bool)), (.vl (.agg [(.seq (.int .u32) 6)]))]
def g88bp : List BP := []
def g88K {α : Type} (G : Bool → (List Int) → (Bool → Option α) → Option α) (ls : List Lf) (k : TV → List (List Seg) → List (List Seg) → Option α) : Option α :=
  G (lf ls 0).bool ((lf ls 1).lst (.int .u32))
    (fun y0 => k (.vl (.agg [(.one (.bool y0)), (.seq (.int .u32) 6 ((lf ls 1).lst (.int .u32)))])) [] [])
def g88hd (G_g102 : {α : Type} → (List Int) → (Bool → Option α) → Option α)  : Hd where
  call := fun f args Bs k => cond (Nat.beq f 102) (rowK g102tp g102bp (g102K G_g102) args Bs k) (none)
  loop := fun id st k => none
  ro := fun f => cond (Nat.beq f 102) [0] ([])
def g88h (m : Nat) : Hd := g88hd (g102 m)
theorem g88Main (G_g102 : {α : Type} → (List Int) → (Bool → Option α) → Option α)  {α : Type} (ls : List Lf) (k : TV → List (List Seg) → List (List Seg) → Option α) :
    g88K (g88b G_g102) ls k = evFun tab (g88hd G_g102) Go.Proofs.Try.f88 (fillT g88tp ls).1 (fillB g88bp (fillT g88tp ls).2).1 k := by kernel_rfl
theorem g88Calls (m : Nat) : (g88h m).CallsOk Go.Proofs.Try.prog := (cok_cons (g102Ok m) cok_nil)
theorem g88Fn (m : Nat) : FnOk Go.Proofs.Try.prog 88 g88tp g88bp (fun {α} => g88K (g88 (α := α) m)) :=
  fn_ok (tab := tab) (h := g88h m) (fn := Go.Proofs.Try.f88) (F := fun {α} => g88K (g88 (α := α) m)) tabOk (g88Calls m) mixed (by kernel_rfl) (by kernel_rfl) (fun c hc => by
    rw [bodyOf_some hc]
    exact loopsOk_of _ (fun p hp => by rw [show loopsOf (bodyOf Go.Proofs.Try.f88) = [] by kernel_rfl] at hp; cases hp))
    (fun α ls k => g88Main (g102 m) ls k)
theorem g88Ok (m : Nat) : RowOk Go.Proofs.Try.prog 88 (fun {α} => rowK g88tp g88bp (g88K (g88 (α := α) m))) := row_of (g88Fn m)

/-! ### g90: spec.l01Cmp -/
def g90l0b {α : Type}   (a150 : List Int) (a151 : List Int) (k160 : Int → Option α) (k161 : Option α) (r162 : Int → Option α) (v149 : Int) : Option α :=
  cond (decide (v149 ≥ (0 : Int)))
   (
    if 0 ≤ v149 ∧ v149 < (6 : Nat) then
      if v149.toNat < 6 then
        if 0 ≤ v149 ∧ v149 < (6 : Nat) then
          if v149.toNat < 6 then
            cond (decide ((List.getD a150 v149.toNat 0) < (List.getD a151 v149.toNat 0)))
             (
              k160 (-1 : Int))
             (
              if 0 ≤ v149 ∧ v149 < (6 : Nat) then
                if v149.toNat < 6 then
                  if 0 ≤ v149 ∧ v149 < (6 : Nat) then
                    if v149.toNat < 6 then
                      cond (decide ((List.getD a150 v149.toNat 0) > (List.getD a151 v149.toNat 0)))
                       (
                        k160 (1 : Int))
                       (
                        r162 (IntKind.wrap .i64 (v149 - (1 : Int))))
                    else
                      none
                  else
                    none
                else
                  none
              else
                none)
          else
            none
        else
          none
      else
        none
    else
      none)
   (
    k161)
def g90l0 {α : Type}   (a150 : List Int) (a151 : List Int) (k160 : Int → Option α) (k161 : Option α) : Nat → Int → Option α
  | 0 => fun _ => none
  | m + 1 => fun v149 => g90l0b a150 a151 k160 k161 (g90l0 a150 a151 k160 k161 m) v149
def g90l0M {α : Type} (m : Nat) : (List Int) → (List Int) → (Int → Option α) → (Option α) → Int → Option α :=
  fun a150 a151 k160 k161 v149 => g90l0 a150 a151 k160 k161 m v149
def g90l0D : LoopD := { n := 32, low := [0, 1], sl := [0, 1, 5], bl := [0, 1], tp := [(.vl (.sv (.ptr 0 0))), (.vl (.sv (.ptr 1 0))), (.vl (.sv (.int .i64)))], bp := [(false, [(.seq (.int .u32) 6)]), (false, [(.seq (.int .u32) 6)])], xs := [(1, [4]), (2, [])] }
def g90l0K {α : Type} (L : (List Int) → (List Int) → (Int → Option α) → (Option α) → Int → Option α) (ls : List Lf) (k : Ex → St → Option α) : Option α :=
  L ((lf ls 1).lst (.int .u32)) ((lf ls 2).lst (.int .u32))
    (fun y0 => k .ret (mkSt 32 [4] [(.vl (.sv (.int .i64 y0)))] [0, 1] [(false, [(.seq (.int .u32) 6 ((lf ls 1).lst (.int .u32)))]), (false, [(.seq (.int .u32) 6 ((lf ls 2).lst (.int .u32)))])]))
    (k .normal (mkSt 32 [] [] [0, 1] [(false, [(.seq (.int .u32) 6 ((lf ls 1).lst (.int .u32)))]), (false, [(.seq (.int .u32) 6 ((lf ls 2).lst (.int .u32)))])]))
    (lf ls 0).int
def g90b {α : Type}  (L_g90l0 : {α : Type} → (List Int) → (List Int) → (Int → Option α) → (Option α) → Int → Option α) (u147 : List Int) (u148 : List Int) (k164 : Int → Option α) : Option α :=
  L_g90l0 u147 u148
    (fun x163 =>
      k164 x163)
    (
      k164 (0 : Int))
    (5 : Int)
def g90 {α : Type} (m : Nat) : (List Int) → (List Int) → (Int → Option α) → Option α :=
  g90b (g90l0M m)
def g90tp : List TP := [(.vl (.sv (.ptr 0 0))), (.vl (.sv (.ptr 1 0)))]
def g90bp : List BP := [(false, [(.seq (.int .u32) 6)]), (false, [(.seq (.int .u32) 6)])]
def g90K {α : Type} (G : (List Int) → (List Int) → (Int → Option α) → Option α) (ls : List Lf) (k : TV → List (List Seg) → List (List Seg) → Option α) : Option α :=
  G ((lf ls 0).lst (.int .u32)) ((lf ls 1).lst (.int .u32))
    (fun y0 => k (.vl (.sv (.int .i64 y0))) [[(.seq (.int .u32) 6 ((lf ls 0).lst (.int .u32)))], [(.seq (.int .u32) 6 ((lf ls 1).lst (.int .u32)))]] [])
def g90hd  (L_g90l0 : {α : Type} → (List Int) → (List Int) → (Int → Option α) → (Option α) → Int → Option α) : Hd where
  call := fun f args Bs k => none
  loop := fun id st k => cond (Nat.beq id 0) (loopH g90l0D (g90l0K L_g90l0) st k) (none)
  ro := fun f => []
def g90h (m : Nat) : Hd := g90hd (g90l0M m)
theorem g90l0Step  (L_g90l0 : {α : Type} → (List Int) → (List Int) → (Int → Option α) → (Option α) → Int → Option α) {α : Type} (L : (List Int) → (List Int) → (Int → Option α) → (Option α) → Int → Option α) (ls : List Lf) (k : Ex → St → Option α) :
    g90l0K (fun a150 a151 k160 k161 v149 => g90l0b a150 a151 k160 k161 (L a150 a151 k160 k161) v149) ls k = ev tab (g90hd L_g90l0) (bodyAt Go.Proofs.Try.f90 0) (atHead g90l0D ls) (loopK g90l0D 0 (loopH g90l0D (g90l0K L)) k) := by kernel_rfl
theorem g90Main  (L_g90l0 : {α : Type} → (List Int) → (List Int) → (Int → Option α) → (Option α) → Int → Option α) {α : Type} (ls : List Lf) (k : TV → List (List Seg) → List (List Seg) → Option α) :
    g90K (g90b L_g90l0) ls k = evFun tab (g90hd L_g90l0) Go.Proofs.Try.f90 (fillT g90tp ls).1 (fillB g90bp (fillT g90tp ls).2).1 k := by kernel_rfl
theorem g90Calls (m : Nat) : (g90h m).CallsOk Go.Proofs.Try.prog := cok_nil
theorem g90l0Ok (m : Nat) (α : Type) (st : St) (k : Ex → St → Option α) (r : α) (h : (g90h m).loop 0 st k = some r) :
    ∃ e st', k e st' = some r ∧ CodeS Go.Proofs.Try.prog (.block 0 (.loop (bodyAt Go.Proofs.Try.f90 0))) st e st' :=
  loop_ok (tab := tab) (h := g90h m) (F := fun n ls k => g90l0K (fun a150 a151 k160 k161 v149 => g90l0 a150 a151 k160 k161 n v149) ls k) tabOk (g90Calls m) mixed (loopsOk_of _ (fun p hp => by rw [show loopsOf (bodyAt Go.Proofs.Try.f90 0) = [] by kernel_rfl] at hp; cases hp))
    (fun _ _ => rfl) (fun n ls k => g90l0Step (g90l0M m) (fun a150 a151 k160 k161 => g90l0 a150 a151 k160 k161 n) ls k) (n := m) h
theorem g90Fn (m : Nat) : FnOk Go.Proofs.Try.prog 90 g90tp g90bp (fun {α} => g90K (g90 (α := α) m)) :=
  fn_ok (tab := tab) (h := g90h m) (fn := Go.Proofs.Try.f90) (F := fun {α} => g90K (g90 (α := α) m)) tabOk (g90Calls m) mixed (by kernel_rfl) (by kernel_rfl) (fun c hc => by
    rw [bodyOf_some hc]
    exact loopsOk_of _ (fun p hp => by
    rw [show loopsOf (bodyOf Go.Proofs.Try.f90) = [(0, bodyAt Go.Proofs.Try.f90 0)] by kernel_rfl] at hp
    simp only [List.mem_cons, List.not_mem_nil, or_false] at hp
    rcases hp with rfl
    exact g90l0Ok m))
    (fun α ls k => g90Main (g90l0M m) ls k)
theorem g90Ok (m : Nat) : RowOk Go.Proofs.Try.prog 90 (fun {α} => rowK g90tp g90bp (g90K (g90 (α := α) m))) := row_of (g90Fn m)

/-! ### g91: spec.l01Minus -/
def g91l0b {α : Type}   (a171 : List Int) (a172 : List Int) (a173 : List Int) (k190 : (List Int) → Option α) (r191 : Int → Int → (List Int) → Option α) (v169 : Int) (v170 : Int) (a174 : List Int) : Option α :=
  cond (decide (v170 < (6 : Int)))
   (
    if 0 ≤ v170 ∧ v170 < (6 : Nat) then
      if v170.toNat < 6 then
        if 0 ≤ v170 ∧ v170 < (6 : Nat) then
          if v170.toNat < 6 then
            let x181 : Int := IntKind.wrap .i64 ((IntKind.wrap .i64 ((IntKind.wrap .i64 (List.getD a171 v170.toNat 0)) - (IntKind.wrap .i64 (List.getD a172 v170.toNat 0)))) - v169)
            cond (decide (x181 < (0 : Int)))
             (
              if 0 ≤ v170 ∧ v170 < (6 : Nat) then
                if v170.toNat < 6 then
                  r191 (1 : Int) (IntKind.wrap .i64 (v170 + (1 : Int))) (List.set a174 (v170.toNat) (IntKind.wrap .u32 (IntKind.wrap .i64 (x181 + (4294967296 : Int)))))
                else
                  none
              else
                none)
             (
              if 0 ≤ v170 ∧ v170 < (6 : Nat) then
                if v170.toNat < 6 then
                  r191 (0 : Int) (IntKind.wrap .i64 (v170 + (1 : Int))) (List.set a174 (v170.toNat) (IntKind.wrap .u32 x181))
                else
                  none
              else
                none)
          else
            none
        else
          none
      else
        none
    else
      none)
   (
    k190 a174)
def g91l0 {α : Type}   (a171 : List Int) (a172 : List Int) (a173 : List Int) (k190 : (List Int) → Option α) : Nat → Int → Int → (List Int) → Option α
  | 0 => fun _ _ _ => none
  | m + 1 => fun v169 v170 a174 => g91l0b a171 a172 a173 k190 (g91l0 a171 a172 a173 k190 m) v169 v170 a174
def g91l0M {α : Type} (m : Nat) : (List Int) → (List Int) → (List Int) → ((List Int) → Option α) → Int → Int → (List Int) → Option α :=
  fun a171 a172 a173 k190 v169 v170 a174 => g91l0 a171 a172 a173 k190 m v169 v170 a174
def g91l0D : LoopD := { n := 38, low := [0, 1], sl := [0, 1, 4, 5, 6, 7], bl := [0, 1, 1000002, 1000003], tp := [(.vl (.sv (.ptr 0 0))), (.vl (.sv (.ptr 1 0))), (.vl (.sv (.ptr 1000002 0))), (.vl (.sv (.ptr 1000003 0))), (.vl (.sv (.int .i64))), (.vl (.sv (.int .i64)))], bp := [(false, [(.seq (.int .u32) 6)]), (false, [(.seq (.int .u32) 6)]), (true, [(.seq (.int .u32) 6)]), (true, [(.seq (.int .u32) 6)])], xs := [(2, [4, 5])] }
def g91l0K {α : Type} (L : (List Int) → (List Int) → (List Int) → ((List Int) → Option α) → Int → Int → (List Int) → Option α) (ls : List Lf) (k : Ex → St → Option α) : Option α :=
  L ((lf ls 2).lst (.int .u32)) ((lf ls 3).lst (.int .u32)) ((lf ls 4).lst (.int .u32))
    (fun y3 => k .normal (mkSt 38 [4, 5] [(.vl (.sv (.ptr 1000002 0))), (.vl (.sv (.ptr 1000003 0)))] [0, 1, 1000002, 1000003] [(false, [(.seq (.int .u32) 6 ((lf ls 2).lst (.int .u32)))]), (false, [(.seq (.int .u32) 6 ((lf ls 3).lst (.int .u32)))]), (true, [(.seq (.int .u32) 6 ((lf ls 4).lst (.int .u32)))]), (true, [(.seq (.int .u32) 6 y3)])]))
    (lf ls 0).int (lf ls 1).int ((lf ls 5).lst (.int .u32))
def g91b {α : Type}  (L_g91l0 : {α : Type} → (List Int) → (List Int) → (List Int) → ((List Int) → Option α) → Int → Int → (List Int) → Option α) (u167 : List Int) (u168 : List Int) (k193 : (List Int) → Option α) : Option α :=
  L_g91l0 u167 u168 [0, 0, 0, 0, 0, 0]
    (fun l192 =>
      k193 l192)
    (0 : Int) (0 : Int) [0, 0, 0, 0, 0, 0]
def g91 {α : Type} (m : Nat) : (List Int) → (List Int) → ((List Int) → Option α) → Option α :=
  g91b (g91l0M m)
def g91tp : List TP := [(.vl (.sv (.ptr 0 0))), (.vl (.sv (.ptr 1 0)))]
def g91bp : List BP := [(false, [(.seq (.int .u32) 6)]), (false, [(.seq (.int .u32) 6)])]
def g91K {α : Type} (G : (List Int) → (List Int) → ((List Int) → Option α) → Option α) (ls : List Lf) (k : TV → List (List Seg) → List (List Seg) → Option α) : Option α :=
  G ((lf ls 0).lst (.int .u32)) ((lf ls 1).lst (.int .u32))
    (fun y0 => k (.vl (.agg [(.seq (.int .u32) 6 y0)])) [[(.seq (.int .u32) 6 ((lf ls 0).lst (.int .u32)))], [(.seq (.int .u32) 6 ((lf ls 1).lst (.int .u32)))]] [])
def g91hd  (L_g91l0 : {α : Type} → (List Int) → (List Int) → (List Int) → ((List Int) → Option α) → Int → Int → (List Int) → Option α) : Hd where
  call := fun f args Bs k => none
  loop := fun id st k => cond (Nat.beq id 0) (loopH g91l0D (g91l0K L_g91l0) st k) (none)
  ro := fun f => []
def g91h (m : Nat) : Hd := g91hd (g91l0M m)
theorem g91l0Step  (L_g91l0 : {α : Type} → (List Int) → (List Int) → (List Int) → ((List Int) → Option α) → Int → Int → (List Int) → Option α) {α : Type} (L : (List Int) → (List Int) → (List Int) → ((List Int) → Option α) → Int → Int → (List Int) → Option α) (ls : List Lf) (k : Ex → St → Option α) :
    g91l0K (fun a171 a172 a173 k190 v169 v170 a174 => g91l0b a171 a172 a173 k190 (L a171 a172 a173 k190) v169 v170 a174) ls k = ev tab (g91hd L_g91l0) (bodyAt Go.Proofs.Try.f91 0) (atHead g91l0D ls) (loopK g91l0D 0 (loopH g91l0D (g91l0K L)) k) := by kernel_rfl
theorem g91Main  (L_g91l0 : {α : Type} → (List Int) → (List Int) → (List Int) → ((List Int) → Option α) → Int → Int → (List Int) → Option α) {α : Type} (ls : List Lf) (k : TV → List (List Seg) → List (List Seg) → Option α) :
    g91K (g91b L_g91l0) ls k = evFun tab (g91hd L_g91l0) Go.Proofs.Try.f91 (fillT g91tp ls).1 (fillB g91bp (fillT g91tp ls).2).1 k := by kernel_rfl
theorem g91Calls (m : Nat) : (g91h m).CallsOk Go.Proofs.Try.prog := cok_nil
theorem g91l0Ok (m : Nat) (α : Type) (st : St) (k : Ex → St → Option α) (r : α) (h : (g91h m).loop 0 st k = some r) :
    ∃ e st', k e st' = some r ∧ CodeS Go.Proofs.Try.prog (.block 0 (.loop (bodyAt Go.Proofs.Try.f91 0))) st e st' :=
  loop_ok (tab := tab) (h := g91h m) (F := fun n ls k => g91l0K (fun a171 a172 a173 k190 v169 v170 a174 => g91l0 a171 a172 a173 k190 n v169 v170 a174) ls k) tabOk (g91Calls m) mixed (loopsOk_of _ (fun p hp => by rw [show loopsOf (bodyAt Go.Proofs.Try.f91 0) = [] by kernel_rfl] at hp; cases hp))
    (fun _ _ => rfl) (fun n ls k => g91l0Step (g91l0M m) (fun a171 a172 a173 k190 => g91l0 a171 a172 a173 k190 n) ls k) (n := m) h
theorem g91Fn (m : Nat) : FnOk Go.Proofs.Try.prog 91 g91tp g91bp (fun {α} => g91K (g91 (α := α) m)) :=
  fn_ok (tab := tab) (h := g91h m) (fn := Go.Proofs.Try.f91) (F := fun {α} => g91K (g91 (α := α) m)) tabOk (g91Calls m) mixed (by kernel_rfl) (by kernel_rfl) (fun c hc => by
    rw [bodyOf_some hc]
    exact loopsOk_of _ (fun p hp => by
    rw [show loopsOf (bodyOf Go.Proofs.Try.f91) = [(0, bodyAt Go.Proofs.Try.f91 0)] by kernel_rfl] at hp
    simp only [List.mem_cons, List.not_mem_nil, or_false] at hp
    rcases hp with rfl
    exact g91l0Ok m))
    (fun α ls k => g91Main (g91l0M m) ls k)
theorem g91Ok (m : Nat) : RowOk Go.Proofs.Try.prog 91 (fun {α} => rowK g91tp g91bp (g91K (g91 (α := α) m))) := row_of (g91Fn m)

/-! ### g60: spec.l01Add -/
def g60b {α : Type} (G_g89 : {α : Type} → (List Int) → (List Int) → ((List Int) → Bool → Option α) → Option α) (G_g88 : {α : Type} → Bool → (List Int) → (Bool → Option α) → Option α) (G_g90 : {α : Type} → (List Int) → (List Int) → (Int → Option α) → Option α) (G_g91 : {α : Type} → (List Int) → (List Int) → ((List Int) → Option α) → Option α)  (q105 : Bool) (u106 : List Int) (q107 : Bool) (u108 : List Int) (k198 : Bool → (List Int) → Int → Option α) : Option α :=
  cond (q105 == q107)
   (
    G_g89 u106 u108
      (fun l135 b136 =>
        cond (!b136)
         (
          k198 false [0, 0, 0, 0, 0, 0] (3 : Int))
         (
          G_g88 q105 l135
            (fun b146 =>
              k198 b146 l135 (0 : Int)))))
   (
    G_g90 u106 u108
      (fun x165 =>
        cond (decide (x165 ≥ (0 : Int)))
         (
          G_g91 u106 u108
            (fun l194 =>
              G_g88 q105 l194
                (fun b195 =>
                  k198 b195 l194 (0 : Int))))
         (
          G_g91 u108 u106
            (fun l196 =>
              G_g88 q107 l196
                (fun b197 =>
                  k198 b197 l196 (0 : Int))))))
def g60 {α : Type} (m : Nat) : Bool → (List Int) → Bool → (List Int) → (Bool → (List Int) → Int → Option α) → Option α :=
  g60b (g89 m) (g88 m) (g90 m) (g91 m)
def g60tp : List TP := [(.vl (.agg [(.one .bool), (.seq (.int .u32) 6)])), (.vl (.agg [(.one .bool), (.seq (.int .u32) 6)]))]
def g60bp : List BP := []
def g60K {α : Type} (G : Bool → (List Int) → Bool → (List Int) → (Bool → (List Int) → Int → Option α) → Option α) (ls : List Lf) (k : TV → List (List Seg) → List (List Seg) → Option α) : Option α :=
  G (lf ls 0).bool ((lf ls 1).lst (.int .u32)) (lf ls 2).bool ((lf ls 3).lst (.int .u32))
    (fun y0 y1 y2 => k (.tup [(.agg [(.one (.bool y0)), (.seq (.int .u32) 6 y1)]), (.sv (.int .i64 y2))]) [] [])
def g60hd (G_g89 : {α : Type} → (List Int) → (List Int) → ((List Int) → Bool → Option α) → Option α) (G_g88 : {α : Type} → Bool → (List Int) → (Bool → Option α) → Option α) (G_g90 : {α : Type} → (List Int) → (List Int) → (Int → Option α) → Option α) (G_g91 : {α : Type} → (List Int) → (List Int) → ((List Int) → Option α) → Option α)  : Hd where
  call := fun f args Bs k => cond (Nat.beq f 89) (rowK g89tp g89bp (g89K G_g89) args Bs k) (cond (Nat.beq f 88) (rowK g88tp g88bp (g88K G_g88) args Bs k) (cond (Nat.beq f 90) (rowK g90tp g90bp (g90K G_g90) args Bs k) (cond (Nat.beq f 91) (rowK g91tp g91bp (g91K G_g91) args Bs k) (none))))
  loop := fun id st k => none
  ro := fun f => cond (Nat.beq f 89) [0, 1] (cond (Nat.beq f 90) [0, 1] (cond (Nat.beq f 91) [0, 1] ([])))
def g60h (m : Nat) : Hd := g60hd (g89 m) (g88 m) (g90 m) (g91 m)
theorem g60Main (G_g89 : {α : Type} → (List Int) → (List Int) → ((List Int) → Bool → Option α) → Option α) (G_g88 : {α : Type} → Bool → (List Int) → (Bool → Option α) → Option α) (G_g90 : {α : Type} → (List Int) → (List Int) → (Int → Option α) → Option α) (G_g91 : {α : Type} → (List Int) → (List Int) → ((List Int) → Option α) → Option α)  {α : Type} (ls : List Lf) (k : TV → List (List Seg) → List (List Seg) → Option α) :
    g60K (g60b G_g89 G_g88 G_g90 G_g91) ls k = evFun tab (g60hd G_g89 G_g88 G_g90 G_g91) Go.Proofs.Try.f60 (fillT g60tp ls).1 (fillB g60bp (fillT g60tp ls).2).1 k := by kernel_rfl
theorem g60Calls (m : Nat) : (g60h m).CallsOk Go.Proofs.Try.prog := (cok_cons (g89Ok m) (cok_cons (g88Ok m) (cok_cons (g90Ok m) (cok_cons (g91Ok m) cok_nil))))
theorem g60Fn (m : Nat) : FnOk Go.Proofs.Try.prog 60 g60tp g60bp (fun {α} => g60K (g60 (α := α) m)) :=
  fn_ok (tab := tab) (h := g60h m) (fn := Go.Proofs.Try.f60) (F := fun {α} => g60K (g60 (α := α) m)) tabOk (g60Calls m) mixed (by kernel_rfl) (by kernel_rfl) (fun c hc => by
    rw [bodyOf_some hc]
    exact loopsOk_of _ (fun p hp => by rw [show loopsOf (bodyOf Go.Proofs.Try.f60) = [] by kernel_rfl] at hp; cases hp))
    (fun α ls k => g60Main (g89 m) (g88 m) (g90 m) (g91 m) ls k)
theorem g60Ok (m : Nat) : RowOk Go.Proofs.Try.prog 60 (fun {α} => rowK g60tp g60bp (g60K (g60 (α := α) m))) := row_of (g60Fn m)

/-! ### g62: spec.l01Of -/
def g62b {α : Type} (G_g88 : {α : Type} → Bool → (List Int) → (Bool → Option α) → Option α)  (p203 : Int) (k221 : Bool → (List Int) → Option α) : Option α :=
  let x204 : Int := IntKind.wrap .u64 p203
  cond (decide (p203 < (0 : Int)))
   (
    let x206 : Int := IntKind.wrap .u64 (0 - x204)
    let l211 : List Int := List.set (List.set [0, 0, 0, 0, 0, 0] 0 (IntKind.wrap .u32 x206)) 1 (IntKind.wrap .u32 (Int.fdiv x206 (2 ^ 32)))
    G_g88 (decide (p203 < (0 : Int))) l211
      (fun b213 =>
        k221 b213 l211))
   (
    let l218 : List Int := List.set (List.set [0, 0, 0, 0, 0, 0] 0 (IntKind.wrap .u32 x204)) 1 (IntKind.wrap .u32 (Int.fdiv x204 (2 ^ 32)))
    G_g88 (decide (p203 < (0 : Int))) l218
      (fun b220 =>
        k221 b220 l218))
def g62 {α : Type} (m : Nat) : Int → (Bool → (List Int) → Option α) → Option α :=
  g62b (g88 m)
def g62tp : List TP := [(.vl (.sv (.int .i64)))]
def g62bp : List BP := []
def g62K {α : Type} (G : Int → (Bool → (List Int) → Option α) → Option α) (ls : List Lf) (k : TV → List (List Seg) → List (List Seg) → Option α) : Option α :=
  G (lf ls 0).int
    (fun y0 y1 => k (.vl (.agg [(.one (.bool y0)), (.seq (.int .u32) 6 y1)])) [] [])
def g62hd (G_g88 : {α : Type} → Bool → (List Int) → (Bool → Option α) → Option α)  : Hd where
  call := fun f args Bs k => cond (Nat.beq f 88) (rowK g88tp g88bp (g88K G_g88) args Bs k) (none)
  loop := fun id st k => none
  ro := fun f => []
def g62h (m : Nat) : Hd := g62hd (g88 m)
theorem g62Main (G_g88 : {α : Type} → Bool → (List Int) → (Bool → Option α) → Option α)  {α : Type} (ls : List Lf) (k : TV → List (List Seg) → List (List Seg) → Option α) :
    g62K (g62b G_g88) ls k = evFun tab (g62hd G_g88) Go.Proofs.Try.f62 (fillT g62tp ls).1 (fillB g62bp (fillT g62tp ls).2).1 k := by kernel_rfl
theorem g62Calls (m : Nat) : (g62h m).CallsOk Go.Proofs.Try.prog := (cok_cons (g88Ok m) cok_nil)
theorem g62Fn (m : Nat) : FnOk Go.Proofs.Try.prog 62 g62tp g62bp (fun {α} => g62K (g62 (α := α) m)) :=
  fn_ok (tab := tab) (h := g62h m) (fn := Go.Proofs.Try.f62) (F := fun {α} => g62K (g62 (α := α) m)) tabOk (g62Calls m) mixed (by kernel_rfl) (by kernel_rfl) (fun c hc => by
    rw [bodyOf_some hc]
    exact loopsOk_of _ (fun p hp => by rw [show loopsOf (bodyOf Go.Proofs.Try.f62) = [] by kernel_rfl] at hp; cases hp))
    (fun α ls k => g62Main (g88 m) ls k)
theorem g62Ok (m : Nat) : RowOk Go.Proofs.Try.prog 62 (fun {α} => rowK g62tp g62bp (g62K (g62 (α := α) m))) := row_of (g62Fn m)

/-! ### g47: spec.l02Next -/
def g47b {α : Type} (G_g60 : {α : Type} → Bool → (List Int) → Bool → (List Int) → (Bool → (List Int) → Int → Option α) → Option α) (G_g62 : {α : Type} → Int → (Bool → (List Int) → Option α) → Option α)  (q102 : Bool) (u103 : List Int) (p104 : Int) (k227 : Bool → (List Int) → Int → Option α) : Option α :=
  G_g60 q102 u103 q102 u103
    (fun b199 l200 x201 =>
      cond (x201 != (0 : Int))
       (
        k227 false [0, 0, 0, 0, 0, 0] x201)
       (
        G_g62 p104
          (fun b222 l223 =>
            G_g60 b199 l200 b222 l223
              (fun b224 l225 x226 =>
                k227 b224 l225 x226))))
def g47 {α : Type} (m : Nat) : Bool → (List Int) → Int → (Bool → (List Int) → Int → Option α) → Option α :=
  g47b (g60 m) (g62 m)
def g47tp : List TP := [(.vl (.agg [(.one .bool), (.seq (.int .u32) 6)])), (.vl (.sv (.int .i64)))]
def g47bp : List BP := []
def g47K {α : Type} (G : Bool → (List Int) → Int → (Bool → (List Int) → Int → Option α) → Option α) (ls : List Lf) (k : TV → List (List Seg) → List (List Seg) → Option α) : Option α :=
  G (lf ls 0).bool ((lf ls 1).lst (.int .u32)) (lf ls 2).int
    (fun y0 y1 y2 => k (.tup [(.agg [(.one (.bool y0)), (.seq (.int .u32) 6 y1)]), (.sv (.int .i64 y2))]) [] [])
def g47hd (G_g60 : {α : Type} → Bool → (List Int) → Bool → (List Int) → (Bool → (List Int) → Int → Option α) → Option α) (G_g62 : {α : Type} → Int → (Bool → (List Int) → Option α) → Option α)  : Hd where
  call := fun f args Bs k => cond (Nat.beq f 60) (rowK g60tp g60bp (g60K G_g60) args Bs k) (cond (Nat.beq f 62) (rowK g62tp g62bp (g62K G_g62) args Bs k) (none))
  loop := fun id st k => none
  ro := fun f => []
def g47h (m : Nat) : Hd := g47hd (g60 m) (g62 m)
theorem g47Main (G_g60 : {α : Type} → Bool → (List Int) → Bool → (List Int) → (Bool → (List Int) → Int → Option α) → Option α) (G_g62 : {α : Type} → Int → (Bool → (List Int) → Option α) → Option α)  {α : Type} (ls : List Lf) (k : TV → List (List Seg) → List (List Seg) → Option α) :
    g47K (g47b G_g60 G_g62) ls k = evFun tab (g47hd G_g60 G_g62) Go.Proofs.Try.f47 (fillT g47tp ls).1 (fillB g47bp (fillT g47tp ls).2).1 k := by kernel_rfl
theorem g47Calls (m : Nat) : (g47h m).CallsOk Go.Proofs.Try.prog := (cok_cons (g60Ok m) (cok_cons (g62Ok m) cok_nil))
theorem g47Fn (m : Nat) : FnOk Go.Proofs.Try.prog 47 g47tp g47bp (fun {α} => g47K (g47 (α := α) m)) :=
  fn_ok (tab := tab) (h := g47h m) (fn := Go.Proofs.Try.f47) (F := fun {α} => g47K (g47 (α := α) m)) tabOk (g47Calls m) mixed (by kernel_rfl) (by kernel_rfl) (fun c hc => by
    rw [bodyOf_some hc]
    exact loopsOk_of _ (fun p hp => by rw [show loopsOf (bodyOf Go.Proofs.Try.f47) = [] by kernel_rfl] at hp; cases hp))
    (fun α ls k => g47Main (g60 m) (g62 m) ls k)
theorem g47Ok (m : Nat) : RowOk Go.Proofs.Try.prog 47 (fun {α} => rowK g47tp g47bp (g47K (g47 (α := α) m))) := row_of (g47Fn m)

/-! ### g18: spec.ValueOfDigits -/
def g18l0b {α : Type}   (m66 : Nat) (m67 : Nat) (m68 : Nat) (m71 : Nat) (a72 : List Int) (c73 : Bool) (a74 : List Int) (c75 : Bool) (a76 : List Int) (k84 : Bool → Option α) (r85 : Bool → Int → Option α) (c69 : Bool) (v70 : Int) : Option α :=
  cond (decide (v70 < ((m67 : Nat) : Int)))
   (
    cond c69
     (
      if 0 ≤ v70 ∧ v70 < (m67 : Nat) then
        if (m66 + v70.toNat) < m71 then
          cond (decide ((List.getD a72 (m66 + v70.toNat) 0) ≥ (-1 : Int)))
           (
            if 0 ≤ v70 ∧ v70 < (m67 : Nat) then
              if (m66 + v70.toNat) < m71 then
                r85 (decide ((List.getD a72 (m66 + v70.toNat) 0) ≤ (1 : Int))) (IntKind.wrap .i64 (v70 + (1 : Int)))
              else
                none
            else
              none)
           (
            r85 false (IntKind.wrap .i64 (v70 + (1 : Int))))
        else
          none
      else
        none)
     (
      k84 c69))
   (
    k84 c69)
def g18l0 {α : Type}   (m66 : Nat) (m67 : Nat) (m68 : Nat) (m71 : Nat) (a72 : List Int) (c73 : Bool) (a74 : List Int) (c75 : Bool) (a76 : List Int) (k84 : Bool → Option α) : Nat → Bool → Int → Option α
  | 0 => fun _ _ => none
  | m + 1 => fun c69 v70 => g18l0b m66 m67 m68 m71 a72 c73 a74 c75 a76 k84 (g18l0 m66 m67 m68 m71 a72 c73 a74 c75 a76 k84 m) c69 v70
def g18l0M {α : Type} (m : Nat) : Nat → Nat → Nat → Nat → (List Int) → Bool → (List Int) → Bool → (List Int) → (Bool → Option α) → Bool → Int → Option α :=
  fun m66 m67 m68 m71 a72 c73 a74 c75 a76 k84 c69 v70 => g18l0 m66 m67 m68 m71 a72 c73 a74 c75 a76 k84 m c69 v70
def g18l0D : LoopD := { n := 64, low := [0], sl := [1, 2, 4, 6, 7], bl := [0, 1000001, 1000002], tp := [(.vl (.sv (.slc 0 0 1))), (.vl (.sv (.ptr 1000001 0))), (.vl (.sv (.ptr 1000002 0))), (.vl (.sv .bool)), (.vl (.sv (.int .i64)))], bp := [(false, [(.seqv (.int .i8))]), (true, [(.one .bool), (.seq (.int .u32) 6)]), (true, [(.one .bool), (.seq (.int .u32) 6)])], xs := [(2, [1, 2, 4, 6])] }
def g18l0K {α : Type} (L : Nat → Nat → Nat → Nat → (List Int) → Bool → (List Int) → Bool → (List Int) → (Bool → Option α) → Bool → Int → Option α) (ls : List Lf) (k : Ex → St → Option α) : Option α :=
  L (lf ls 0).nat (lf ls 1).nat (lf ls 2).nat (lf ls 5).nat ((lf ls 6).lst (.int .i8)) (lf ls 7).bool ((lf ls 8).lst (.int .u32)) (lf ls 9).bool ((lf ls 10).lst (.int .u32))
    (fun y3 => k .normal (mkSt 64 [1, 2, 4, 6] [(.vl (.sv (.slc 0 0 1 (lf ls 0).nat (lf ls 1).nat (lf ls 2).nat))), (.vl (.sv (.ptr 1000001 0))), (.vl (.sv (.ptr 1000002 0))), (.vl (.sv (.bool y3)))] [0, 1000001, 1000002] [(false, [(.seq (.int .i8) (lf ls 5).nat ((lf ls 6).lst (.int .i8)))]), (true, [(.one (.bool (lf ls 7).bool)), (.seq (.int .u32) 6 ((lf ls 8).lst (.int .u32)))]), (true, [(.one (.bool (lf ls 9).bool)), (.seq (.int .u32) 6 ((lf ls 10).lst (.int .u32)))])]))
    (lf ls 3).bool (lf ls 4).int
def g18l2b {α : Type} (G_g47 : {α : Type} → Bool → (List Int) → Int → (Bool → (List Int) → Int → Option α) → Option α)  (m89 : Nat) (m90 : Nat) (m91 : Nat) (m93 : Nat) (a94 : List Int) (c95 : Bool) (a96 : List Int) (k233 : Int → (List Int) → Option α) (k234 : Bool → (List Int) → Option α) (r235 : Int → Bool → (List Int) → Option α) (v92 : Int) (c97 : Bool) (a98 : List Int) : Option α :=
  cond (decide (v92 < ((m90 : Nat) : Int)))
   (
    if 0 ≤ v92 ∧ v92 < (m90 : Nat) then
      if (m89 + v92.toNat) < m93 then
        G_g47 c97 a98 (IntKind.wrap .i64 (List.getD a94 (m89 + v92.toNat) 0))
          (fun b228 l229 x230 =>
            cond (x230 != (0 : Int))
             (
              k233 x230 [0, 0, 0, 0, 0, 0])
             (
              r235 (IntKind.wrap .i64 (v92 + (1 : Int))) b228 l229))
      else
        none
    else
      none)
   (
    k234 c97 a98)
def g18l2 {α : Type} (G_g47 : {α : Type} → Bool → (List Int) → Int → (Bool → (List Int) → Int → Option α) → Option α)  (m89 : Nat) (m90 : Nat) (m91 : Nat) (m93 : Nat) (a94 : List Int) (c95 : Bool) (a96 : List Int) (k233 : Int → (List Int) → Option α) (k234 : Bool → (List Int) → Option α) : Nat → Int → Bool → (List Int) → Option α
  | 0 => fun _ _ _ => none
  | m + 1 => fun v92 c97 a98 => g18l2b G_g47 m89 m90 m91 m93 a94 c95 a96 k233 k234 (g18l2 G_g47 m89 m90 m91 m93 a94 c95 a96 k233 k234 m) v92 c97 a98
def g18l2M {α : Type} (m : Nat) : Nat → Nat → Nat → Nat → (List Int) → Bool → (List Int) → (Int → (List Int) → Option α) → (Bool → (List Int) → Option α) → Int → Bool → (List Int) → Option α :=
  fun m89 m90 m91 m93 a94 c95 a96 k233 k234 v92 c97 a98 => g18l2 (g47 m) m89 m90 m91 m93 a94 c95 a96 k233 k234 m v92 c97 a98
def g18l2D : LoopD := { n := 64, low := [0], sl := [1, 4, 8, 9], bl := [0, 1000001, 1000002], tp := [(.vl (.sv (.slc 0 0 1))), (.vl (.sv (.ptr 1000001 0))), (.vl (.sv (.ptr 1000002 0))), (.vl (.sv (.int .i64)))], bp := [(false, [(.seqv (.int .i8))]), (true, [(.one .bool), (.seq (.int .u32) 6)]), (true, [(.one .bool), (.seq (.int .u32) 6)])], xs := [(1, [4, 5]), (4, [4, 8])] }
def g18l2K {α : Type} (L : Nat → Nat → Nat → Nat → (List Int) → Bool → (List Int) → (Int → (List Int) → Option α) → (Bool → (List Int) → Option α) → Int → Bool → (List Int) → Option α) (ls : List Lf) (k : Ex → St → Option α) : Option α :=
  L (lf ls 0).nat (lf ls 1).nat (lf ls 2).nat (lf ls 4).nat ((lf ls 5).lst (.int .i8)) (lf ls 6).bool ((lf ls 7).lst (.int .u32))
    (fun y0 y4 => k .ret (mkSt 64 [4, 5] [(.vl (.sv (.ptr 1000001 0))), (.vl (.sv (.int .i64 y0)))] [0, 1000001] [(false, [(.seq (.int .i8) (lf ls 4).nat ((lf ls 5).lst (.int .i8)))]), (true, [(.one (.bool false)), (.seq (.int .u32) 6 y4)])]))
    (fun y4 y5 => k .normal (mkSt 64 [4, 8] [(.vl (.sv (.ptr 1000001 0))), (.vl (.sv (.ptr 1000002 0)))] [0, 1000001, 1000002] [(false, [(.seq (.int .i8) (lf ls 4).nat ((lf ls 5).lst (.int .i8)))]), (true, [(.one (.bool (lf ls 6).bool)), (.seq (.int .u32) 6 ((lf ls 7).lst (.int .u32)))]), (true, [(.one (.bool y4)), (.seq (.int .u32) 6 y5)])]))
    (lf ls 3).int (lf ls 8).bool ((lf ls 9).lst (.int .u32))
def g18b {α : Type} (G_g46 : {α : Type} → Bool → (List Int) → (Bool → Option α) → Option α) (G_g47 : {α : Type} → Bool → (List Int) → Int → (Bool → (List Int) → Int → Option α) → Option α) (L_g18l0 : {α : Type} → Nat → Nat → Nat → Nat → (List Int) → Bool → (List Int) → Bool → (List Int) → (Bool → Option α) → Bool → Int → Option α) (L_g18l2 : {α : Type} → Nat → Nat → Nat → Nat → (List Int) → Bool → (List Int) → (Int → (List Int) → Option α) → (Bool → (List Int) → Option α) → Int → Bool → (List Int) → Option α) (q53 : Bool) (u54 : List Int) (m55 : Nat) (m56 : Nat) (m57 : Nat) (m58 : Nat) (u59 : List Int) (k240 : Bool → (List Int) → Int → Option α) : Option α :=
  G_g46 q53 u54
    (fun b65 =>
      L_g18l0 m55 m56 m57 m58 u59 q53 u54 false [0, 0, 0, 0, 0, 0]
        (fun b86 =>
          cond (!b86)
           (
            k240 false [0, 0, 0, 0, 0, 0] (1 : Int))
           (
            cond (decide (((m56 : Nat) : Int) > (64 : Int)))
             (
              k240 false [0, 0, 0, 0, 0, 0] (2 : Int))
             (
              L_g18l2 m55 m56 m57 m58 u59 false [0, 0, 0, 0, 0, 0]
                (fun x236 l237 =>
                  k240 false l237 x236)
                (fun b238 l239 =>
                  k240 b238 l239 (0 : Int))
                (0 : Int) q53 u54)))
        b65 (0 : Int))
def g18 {α : Type} (m : Nat) : Bool → (List Int) → Nat → Nat → Nat → Nat → (List Int) → (Bool → (List Int) → Int → Option α) → Option α :=
  g18b (g46 m) (g47 m) (g18l0M m) (g18l2M m)
def g18tp : List TP := [(.vl (.agg [(.one .bool), (.seq (.int .u32) 6)])), (.vl (.sv (.slc 0 0 1)))]
def g18bp : List BP := [(false, [(.seqv (.int .i8))])]
def g18K {α : Type} (G : Bool → (List Int) → Nat → Nat → Nat → Nat → (List Int) → (Bool → (List Int) → Int → Option α) → Option α) (ls : List Lf) (k : TV → List (List Seg) → List (List Seg) → Option α) : Option α :=
  G (lf ls 0).bool ((lf ls 1).lst (.int .u32)) (lf ls 2).nat (lf ls 3).nat (lf ls 4).nat (lf ls 5).nat ((lf ls 6).lst (.int .i8))
    (fun y0 y1 y2 => k (.tup [(.agg [(.one (.bool y0)), (.seq (.int .u32) 6 y1)]), (.sv (.int .i64 y2))]) [[(.seq (.int .i8) (lf ls 5).nat ((lf ls 6).lst (.int .i8)))]] [])
def g18hd (G_g46 : {α : Type} → Bool → (List Int) → (Bool → Option α) → Option α) (G_g47 : {α : Type} → Bool → (List Int) → Int → (Bool → (List Int) → Int → Option α) → Option α) (L_g18l0 : {α : Type} → Nat → Nat → Nat → Nat → (List Int) → Bool → (List Int) → Bool → (List Int) → (Bool → Option α) → Bool → Int → Option α) (L_g18l2 : {α : Type} → Nat → Nat → Nat → Nat → (List Int) → Bool → (List Int) → (Int → (List Int) → Option α) → (Bool → (List Int) → Option α) → Int → Bool → (List Int) → Option α) : Hd where
  call := fun f args Bs k => cond (Nat.beq f 46) (rowK g46tp g46bp (g46K G_g46) args Bs k) (cond (Nat.beq f 47) (rowK g47tp g47bp (g47K G_g47) args Bs k) (none))
  loop := fun id st k => cond (Nat.beq id 0) (loopH g18l0D (g18l0K L_g18l0) st k) (cond (Nat.beq id 2) (loopH g18l2D (g18l2K L_g18l2) st k) (none))
  ro := fun f => cond (Nat.beq f 46) [0] ([])
def g18h (m : Nat) : Hd := g18hd (g46 m) (g47 m) (g18l0M m) (g18l2M m)
theorem g18l0Step (G_g46 : {α : Type} → Bool → (List Int) → (Bool → Option α) → Option α) (G_g47 : {α : Type} → Bool → (List Int) → Int → (Bool → (List Int) → Int → Option α) → Option α) (L_g18l0 : {α : Type} → Nat → Nat → Nat → Nat → (List Int) → Bool → (List Int) → Bool → (List Int) → (Bool → Option α) → Bool → Int → Option α) (L_g18l2 : {α : Type} → Nat → Nat → Nat → Nat → (List Int) → Bool → (List Int) → (Int → (List Int) → Option α) → (Bool → (List Int) → Option α) → Int → Bool → (List Int) → Option α) {α : Type} (L : Nat → Nat → Nat → Nat → (List Int) → Bool → (List Int) → Bool → (List Int) → (Bool → Option α) → Bool → Int → Option α) (ls : List Lf) (k : Ex → St → Option α) :
    g18l0K (fun m66 m67 m68 m71 a72 c73 a74 c75 a76 k84 c69 v70 => g18l0b m66 m67 m68 m71 a72 c73 a74 c75 a76 k84 (L m66 m67 m68 m71 a72 c73 a74 c75 a76 k84) c69 v70) ls k = ev tab (g18hd G_g46 G_g47 L_g18l0 L_g18l2) (bodyAt Go.Proofs.Try.f18 0) (atHead g18l0D ls) (loopK g18l0D 0 (loopH g18l0D (g18l0K L)) k) := by kernel_rfl
theorem g18l2Step (G_g46 : {α : Type} → Bool → (List Int) → (Bool → Option α) → Option α) (G_g47 : {α : Type} → Bool → (List Int) → Int → (Bool → (List Int) → Int → Option α) → Option α) (L_g18l0 : {α : Type} → Nat → Nat → Nat → Nat → (List Int) → Bool → (List Int) → Bool → (List Int) → (Bool → Option α) → Bool → Int → Option α) (L_g18l2 : {α : Type} → Nat → Nat → Nat → Nat → (List Int) → Bool → (List Int) → (Int → (List Int) → Option α) → (Bool → (List Int) → Option α) → Int → Bool → (List Int) → Option α) {α : Type} (L : Nat → Nat → Nat → Nat → (List Int) → Bool → (List Int) → (Int → (List Int) → Option α) → (Bool → (List Int) → Option α) → Int → Bool → (List Int) → Option α) (ls : List Lf) (k : Ex → St → Option α) :
    g18l2K (fun m89 m90 m91 m93 a94 c95 a96 k233 k234 v92 c97 a98 => g18l2b G_g47 m89 m90 m91 m93 a94 c95 a96 k233 k234 (L m89 m90 m91 m93 a94 c95 a96 k233 k234) v92 c97 a98) ls k = ev tab (g18hd G_g46 G_g47 L_g18l0 L_g18l2) (bodyAt Go.Proofs.Try.f18 2) (atHead g18l2D ls) (loopK g18l2D 2 (loopH g18l2D (g18l2K L)) k) := by kernel_rfl
theorem g18Main (G_g46 : {α : Type} → Bool → (List Int) → (Bool → Option α) → Option α) (G_g47 : {α : Type} → Bool → (List Int) → Int → (Bool → (List Int) → Int → Option α) → Option α) (L_g18l0 : {α : Type} → Nat → Nat → Nat → Nat → (List Int) → Bool → (List Int) → Bool → (List Int) → (Bool → Option α) → Bool → Int → Option α) (L_g18l2 : {α : Type} → Nat → Nat → Nat → Nat → (List Int) → Bool → (List Int) → (Int → (List Int) → Option α) → (Bool → (List Int) → Option α) → Int → Bool → (List Int) → Option α) {α : Type} (ls : List Lf) (k : TV → List (List Seg) → List (List Seg) → Option α) :
    g18K (g18b G_g46 G_g47 L_g18l0 L_g18l2) ls k = evFun tab (g18hd G_g46 G_g47 L_g18l0 L_g18l2) Go.Proofs.Try.f18 (fillT g18tp ls).1 (fillB g18bp (fillT g18tp ls).2).1 k := by kernel_rfl
theorem g18Calls (m : Nat) : (g18h m).CallsOk Go.Proofs.Try.prog := (cok_cons (g46Ok m) (cok_cons (g47Ok m) cok_nil))
theorem g18l0Ok (m : Nat) (α : Type) (st : St) (k : Ex → St → Option α) (r : α) (h : (g18h m).loop 0 st k = some r) :
    ∃ e st', k e st' = some r ∧ CodeS Go.Proofs.Try.prog (.block 0 (.loop (bodyAt Go.Proofs.Try.f18 0))) st e st' :=
  loop_ok (tab := tab) (h := g18h m) (F := fun n ls k => g18l0K (fun m66 m67 m68 m71 a72 c73 a74 c75 a76 k84 c69 v70 => g18l0 m66 m67 m68 m71 a72 c73 a74 c75 a76 k84 n c69 v70) ls k) tabOk (g18Calls m) mixed (loopsOk_of _ (fun p hp => by rw [show loopsOf (bodyAt Go.Proofs.Try.f18 0) = [] by kernel_rfl] at hp; cases hp))
    (fun _ _ => rfl) (fun n ls k => g18l0Step (g46 m) (g47 m) (g18l0M m) (g18l2M m) (fun m66 m67 m68 m71 a72 c73 a74 c75 a76 k84 => g18l0 m66 m67 m68 m71 a72 c73 a74 c75 a76 k84 n) ls k) (n := m) h
theorem g18l2Ok (m : Nat) (α : Type) (st : St) (k : Ex → St → Option α) (r : α) (h : (g18h m).loop 2 st k = some r) :
    ∃ e st', k e st' = some r ∧ CodeS Go.Proofs.Try.prog (.block 2 (.loop (bodyAt Go.Proofs.Try.f18 2))) st e st' :=
  loop_ok (tab := tab) (h := g18h m) (F := fun n ls k => g18l2K (fun m89 m90 m91 m93 a94 c95 a96 k233 k234 v92 c97 a98 => g18l2 (g47 m) m89 m90 m91 m93 a94 c95 a96 k233 k234 n v92 c97 a98) ls k) tabOk (g18Calls m) mixed (loopsOk_of _ (fun p hp => by rw [show loopsOf (bodyAt Go.Proofs.Try.f18 2) = [] by kernel_rfl] at hp; cases hp))
    (fun _ _ => rfl) (fun n ls k => g18l2Step (g46 m) (g47 m) (g18l0M m) (g18l2M m) (fun m89 m90 m91 m93 a94 c95 a96 k233 k234 => g18l2 (g47 m) m89 m90 m91 m93 a94 c95 a96 k233 k234 n) ls k) (n := m) h
theorem g18Fn (m : Nat) : FnOk Go.Proofs.Try.prog 18 g18tp g18bp (fun {α} => g18K (g18 (α := α) m)) :=
  fn_ok (tab := tab) (h := g18h m) (fn := Go.Proofs.Try.f18) (F := fun {α} => g18K (g18 (α := α) m)) tabOk (g18Calls m) mixed (by kernel_rfl) (by kernel_rfl) (fun c hc => by
    rw [bodyOf_some hc]
    exact loopsOk_of _ (fun p hp => by
    rw [show loopsOf (bodyOf Go.Proofs.Try.f18) = [(0, bodyAt Go.Proofs.Try.f18 0), (2, bodyAt Go.Proofs.Try.f18 2)] by kernel_rfl] at hp
    simp only [List.mem_cons, List.not_mem_nil, or_false] at hp
    rcases hp with rfl | rfl
    · exact g18l0Ok m
    · exact g18l2Ok m))
    (fun α ls k => g18Main (g46 m) (g47 m) (g18l0M m) (g18l2M m) ls k)
theorem g18Ok (m : Nat) : RowOk Go.Proofs.Try.prog 18 (fun {α} => rowK g18tp g18bp (g18K (g18 (α := α) m))) := row_of (g18Fn m)

/-! ### g49: impl.ValidWide -/
def g49b {α : Type}   (q253 : Bool) (u254 : List Int) (k257 : Bool → Option α) : Option α :=
  cond (!q253)
   (
    k257 true)
   (
    k257 (!(eqLI u254 [0, 0, 0, 0, 0, 0])))
def g49 {α : Type} (m : Nat) : Bool → (List Int) → (Bool → Option α) → Option α :=
  g49b
def g49tp : List TP := [(.vl (.agg [(.one .bool), (.seq (.int .u32) 6)]))]
def g49bp : List BP := []
def g49K {α : Type} (G : Bool → (List Int) → (Bool → Option α) → Option α) (ls : List Lf) (k : TV → List (List Seg) → List (List Seg) → Option α) : Option α :=
  G (lf ls 0).bool ((lf ls 1).lst (.int .u32))
    (fun y0 => k (.vl (.sv (.bool y0))) [] [])
def g49hd   : Hd where
  call := fun f args Bs k => none
  loop := fun id st k => none
  ro := fun f => []
def g49h (m : Nat) : Hd := g49hd
theorem g49Main   {α : Type} (ls : List Lf) (k : TV → List (List Seg) → List (List Seg) → Option α) :
    g49K (g49b) ls k = evFun tab (g49hd) Go.Proofs.Try.f49 (fillT g49tp ls).1 (fillB g49bp (fillT g49tp ls).2).1 k := by kernel_rfl
theorem g49Calls (m : Nat) : (g49h m).CallsOk Go.Proofs.Try.prog := cok_nil
theorem g49Fn (m : Nat) : FnOk Go.Proofs.Try.prog 49 g49tp g49bp (fun {α} => g49K (g49 (α := α) m)) :=
  fn_ok (tab := tab) (h := g49h m) (fn := Go.Proofs.Try.f49) (F := fun {α} => g49K (g49 (α := α) m)) tabOk (g49Calls m) mixed (by kernel_rfl) (by kernel_rfl) (fun c hc => by
    rw [bodyOf_some hc]
    exact loopsOk_of _ (fun p hp => by rw [show loopsOf (bodyOf Go.Proofs.Try.f49) = [] by kernel_rfl] at hp; cases hp))
    (fun α ls k => g49Main ls k)
theorem g49Ok (m : Nat) : RowOk Go.Proofs.Try.prog 49 (fun {α} => rowK g49tp g49bp (g49K (g49 (α := α) m))) := row_of (g49Fn m)

/-! ### g52: impl.isDigit -/
def g52b {α : Type}   (p280 : Int) (k283 : Bool → Option α) : Option α :=
  cond (decide (p280 ≥ (-1 : Int)))
   (
    k283 (decide (p280 ≤ (1 : Int))))
   (
    k283 false)
def g52 {α : Type} (m : Nat) : Int → (Bool → Option α) → Option α :=
  g52b
def g52tp : List TP := [(.vl (.sv (.int .i8)))]
def g52bp : List BP := []
def g52K {α : Type} (G : Int → (Bool → Option α) → Option α) (ls : List Lf) (k : TV → List (List Seg) → List (List Seg) → Option α) : Option α :=
  G (lf ls 0).int
    (fun y0 => k (.vl (.sv (.bool y0))) [] [])
def g52hd   : Hd where
  call := fun f args Bs k => none
  loop := fun id st k => none
  ro := fun f => []
def g52h (m : Nat) : Hd := g52hd
theorem g52Main   {α : Type} (ls : List Lf) (k : TV → List (List Seg) → List (List Seg) → Option α) :
    g52K (g52b) ls k = evFun tab (g52hd) Go.Proofs.Try.f52 (fillT g52tp ls).1 (fillB g52bp (fillT g52tp ls).2).1 k := by kernel_rfl
theorem g52Calls (m : Nat) : (g52h m).CallsOk Go.Proofs.Try.prog := cok_nil
theorem g52Fn (m : Nat) : FnOk Go.Proofs.Try.prog 52 g52tp g52bp (fun {α} => g52K (g52 (α := α) m)) :=
  fn_ok (tab := tab) (h := g52h m) (fn := Go.Proofs.Try.f52) (F := fun {α} => g52K (g52 (α := α) m)) tabOk (g52Calls m) mixed (by kernel_rfl) (by kernel_rfl) (fun c hc => by
    rw [bodyOf_some hc]
    exact loopsOk_of _ (fun p hp => by rw [show loopsOf (bodyOf Go.Proofs.Try.f52) = [] by kernel_rfl] at hp; cases hp))
    (fun α ls k => g52Main ls k)
theorem g52Ok (m : Nat) : RowOk Go.Proofs.Try.prog 52 (fun {α} => rowK g52tp g52bp (g52K (g52 (α := α) m))) := row_of (g52Fn m)

/-! ### g51: impl.ValueOfDigits$1 -/
def g51b {α : Type} (G_g52 : {α : Type} → Int → (Bool → Option α) → Option α)  (p279 : Int) (k286 : Bool → Option α) : Option α :=
  G_g52 p279
    (fun b284 =>
      k286 (!b284))
def g51 {α : Type} (m : Nat) : Int → (Bool → Option α) → Option α :=
  g51b (g52 m)
def g51tp : List TP := [(.vl (.sv (.int .i8)))]
def g51bp : List BP := []
def g51K {α : Type} (G : Int → (Bool → Option α) → Option α) (ls : List Lf) (k : TV → List (List Seg) → List (List Seg) → Option α) : Option α :=
  G (lf ls 0).int
    (fun y0 => k (.vl (.sv (.bool y0))) [] [])
def g51hd (G_g52 : {α : Type} → Int → (Bool → Option α) → Option α)  : Hd where
  call := fun f args Bs k => cond (Nat.beq f 52) (rowK g52tp g52bp (g52K G_g52) args Bs k) (none)
  loop := fun id st k => none
  ro := fun f => []
def g51h (m : Nat) : Hd := g51hd (g52 m)
theorem g51Main (G_g52 : {α : Type} → Int → (Bool → Option α) → Option α)  {α : Type} (ls : List Lf) (k : TV → List (List Seg) → List (List Seg) → Option α) :
    g51K (g51b G_g52) ls k = evFun tab (g51hd G_g52) Go.Proofs.Try.f51 (fillT g51tp ls).1 (fillB g51bp (fillT g51tp ls).2).1 k := by kernel_rfl
theorem g51Calls (m : Nat) : (g51h m).CallsOk Go.Proofs.Try.prog := (cok_cons (g52Ok m) cok_nil)
theorem g51Fn (m : Nat) : FnOk Go.Proofs.Try.prog 51 g51tp g51bp (fun {α} => g51K (g51 (α := α) m)) :=
  fn_ok (tab := tab) (h := g51h m) (fn := Go.Proofs.Try.f51) (F := fun {α} => g51K (g51 (α := α) m)) tabOk (g51Calls m) mixed (by kernel_rfl) (by kernel_rfl) (fun c hc => by
    rw [bodyOf_some hc]
    exact loopsOk_of _ (fun p hp => by rw [show loopsOf (bodyOf Go.Proofs.Try.f51) = [] by kernel_rfl] at hp; cases hp))
    (fun α ls k => g51Main (g52 m) ls k)
theorem g51Ok (m : Nat) : RowOk Go.Proofs.Try.prog 51 (fun {α} => rowK g51tp g51bp (g51K (g51 (α := α) m))) := row_of (g51Fn m)

/-! ### g83: slices.IndexFunc[[]int8,int8] -/
def g83l0b {α : Type} (G_g51 : {α : Type} → Int → (Bool → Option α) → Option α)  (m270 : Nat) (m271 : Nat) (m272 : Nat) (v273 : Int) (m275 : Nat) (a276 : List Int) (k289 : Int → Option α) (k290 : Option α) (r291 : Int → Option α) (v274 : Int) : Option α :=
  cond (decide (v274 < v273))
   (
    if 0 ≤ v274 ∧ v274 < (m271 : Nat) then
      if (m270 + v274.toNat) < m275 then
        G_g51 (List.getD a276 (m270 + v274.toNat) 0)
          (fun b287 =>
            cond b287
             (
              k289 v274)
             (
              r291 (IntKind.wrap .i64 (v274 + (1 : Int)))))
      else
        none
    else
      none)
   (
    k290)
def g83l0 {α : Type} (G_g51 : {α : Type} → Int → (Bool → Option α) → Option α)  (m270 : Nat) (m271 : Nat) (m272 : Nat) (v273 : Int) (m275 : Nat) (a276 : List Int) (k289 : Int → Option α) (k290 : Option α) : Nat → Int → Option α
  | 0 => fun _ => none
  | m + 1 => fun v274 => g83l0b G_g51 m270 m271 m272 v273 m275 a276 k289 k290 (g83l0 G_g51 m270 m271 m272 v273 m275 a276 k289 k290 m) v274
def g83l0M {α : Type} (m : Nat) : Nat → Nat → Nat → Int → Nat → (List Int) → (Int → Option α) → (Option α) → Int → Option α :=
  fun m270 m271 m272 v273 m275 a276 k289 k290 v274 => g83l0 (g51 m) m270 m271 m272 v273 m275 a276 k289 k290 m v274
def g83l0D : LoopD := { n := 19, low := [0], sl := [0, 1, 7, 8], bl := [0], tp := [(.vl (.sv (.slc 0 0 1))), (.vl (.sv (.clo 51 []))), (.vl (.sv (.int .i64))), (.vl (.sv (.int .i64)))], bp := [(false, [(.seqv (.int .i8))])], xs := [(1, [4]), (2, [])] }
def g83l0K {α : Type} (L : Nat → Nat → Nat → Int → Nat → (List Int) → (Int → Option α) → (Option α) → Int → Option α) (ls : List Lf) (k : Ex → St → Option α) : Option α :=
  L (lf ls 0).nat (lf ls 1).nat (lf ls 2).nat (lf ls 3).int (lf ls 5).nat ((lf ls 6).lst (.int .i8))
    (fun y0 => k .ret (mkSt 19 [4] [(.vl (.sv (.int .i64 y0)))] [0] [(false, [(.seq (.int .i8) (lf ls 5).nat ((lf ls 6).lst (.int .i8)))])]))
    (k .normal (mkSt 19 [] [] [0] [(false, [(.seq (.int .i8) (lf ls 5).nat ((lf ls 6).lst (.int .i8)))])]))
    (lf ls 4).int
def g83b {α : Type} (G_g51 : {α : Type} → Int → (Bool → Option α) → Option α) (L_g83l0 : {α : Type} → Nat → Nat → Nat → Int → Nat → (List Int) → (Int → Option α) → (Option α) → Int → Option α) (m265 : Nat) (m266 : Nat) (m267 : Nat) (m268 : Nat) (u269 : List Int) (k293 : Int → Option α) : Option α :=
  L_g83l0 m265 m266 m267 ((m266 : Nat) : Int) m268 u269
    (fun x292 =>
      k293 x292)
    (
      k293 (-1 : Int))
    (0 : Int)
def g83 {α : Type} (m : Nat) : Nat → Nat → Nat → Nat → (List Int) → (Int → Option α) → Option α :=
  g83b (g51 m) (g83l0M m)
def g83tp : List TP := [(.vl (.sv (.slc 0 0 1))), (.vl (.sv (.clo 51 [])))]
def g83bp : List BP := [(false, [(.seqv (.int .i8))])]
def g83K {α : Type} (G : Nat → Nat → Nat → Nat → (List Int) → (Int → Option α) → Option α) (ls : List Lf) (k : TV → List (List Seg) → List (List Seg) → Option α) : Option α :=
  G (lf ls 0).nat (lf ls 1).nat (lf ls 2).nat (lf ls 3).nat ((lf ls 4).lst (.int .i8))
    (fun y0 => k (.vl (.sv (.int .i64 y0))) [[(.seq (.int .i8) (lf ls 3).nat ((lf ls 4).lst (.int .i8)))]] [])
def g83hd (G_g51 : {α : Type} → Int → (Bool → Option α) → Option α) (L_g83l0 : {α : Type} → Nat → Nat → Nat → Int → Nat → (List Int) → (Int → Option α) → (Option α) → Int → Option α) : Hd where
  call := fun f args Bs k => cond (Nat.beq f 51) (rowK g51tp g51bp (g51K G_g51) args Bs k) (none)
  loop := fun id st k => cond (Nat.beq id 0) (loopH g83l0D (g83l0K L_g83l0) st k) (none)
  ro := fun f => []
def g83h (m : Nat) : Hd := g83hd (g51 m) (g83l0M m)
theorem g83l0Step (G_g51 : {α : Type} → Int → (Bool → Option α) → Option α) (L_g83l0 : {α : Type} → Nat → Nat → Nat → Int → Nat → (List Int) → (Int → Option α) → (Option α) → Int → Option α) {α : Type} (L : Nat → Nat → Nat → Int → Nat → (List Int) → (Int → Option α) → (Option α) → Int → Option α) (ls : List Lf) (k : Ex → St → Option α) :
    g83l0K (fun m270 m271 m272 v273 m275 a276 k289 k290 v274 => g83l0b G_g51 m270 m271 m272 v273 m275 a276 k289 k290 (L m270 m271 m272 v273 m275 a276 k289 k290) v274) ls k = ev tab (g83hd G_g51 L_g83l0) (bodyAt Go.Proofs.Try.f83 0) (atHead g83l0D ls) (loopK g83l0D 0 (loopH g83l0D (g83l0K L)) k) := by kernel_rfl
theorem g83Main (G_g51 : {α : Type} → Int → (Bool → Option α) → Option α) (L_g83l0 : {α : Type} → Nat → Nat → Nat → Int → Nat → (List Int) → (Int → Option α) → (Option α) → Int → Option α) {α : Type} (ls : List Lf) (k : TV → List (List Seg) → List (List Seg) → Option α) :
    g83K (g83b G_g51 L_g83l0) ls k = evFun tab (g83hd G_g51 L_g83l0) Go.Proofs.Try.f83 (fillT g83tp ls).1 (fillB g83bp (fillT g83tp ls).2).1 k := by kernel_rfl
theorem g83Calls (m : Nat) : (g83h m).CallsOk Go.Proofs.Try.prog := (cok_cons (g51Ok m) cok_nil)
theorem g83l0Ok (m : Nat) (α : Type) (st : St) (k : Ex → St → Option α) (r : α) (h : (g83h m).loop 0 st k = some r) :
    ∃ e st', k e st' = some r ∧ CodeS Go.Proofs.Try.prog (.block 0 (.loop (bodyAt Go.Proofs.Try.f83 0))) st e st' :=
  loop_ok (tab := tab) (h := g83h m) (F := fun n ls k => g83l0K (fun m270 m271 m272 v273 m275 a276 k289 k290 v274 => g83l0 (g51 m) m270 m271 m272 v273 m275 a276 k289 k290 n v274) ls k) tabOk (g83Calls m) mixed (loopsOk_of _ (fun p hp => by rw [show loopsOf (bodyAt Go.Proofs.Try.f83 0) = [] by kernel_rfl] at hp; cases hp))
    (fun _ _ => rfl) (fun n ls k => g83l0Step (g51 m) (g83l0M m) (fun m270 m271 m272 v273 m275 a276 k289 k290 => g83l0 (g51 m) m270 m271 m272 v273 m275 a276 k289 k290 n) ls k) (n := m) h
theorem g83Fn (m : Nat) : FnOk Go.Proofs.Try.prog 83 g83tp g83bp (fun {α} => g83K (g83 (α := α) m)) :=
  fn_ok (tab := tab) (h := g83h m) (fn := Go.Proofs.Try.f83) (F := fun {α} => g83K (g83 (α := α) m)) tabOk (g83Calls m) mixed (by kernel_rfl) (by kernel_rfl) (fun c hc => by
    rw [bodyOf_some hc]
    exact loopsOk_of _ (fun p hp => by
    rw [show loopsOf (bodyOf Go.Proofs.Try.f83) = [(0, bodyAt Go.Proofs.Try.f83 0)] by kernel_rfl] at hp
    simp only [List.mem_cons, List.not_mem_nil, or_false] at hp
    rcases hp with rfl
    exact g83l0Ok m))
    (fun α ls k => g83Main (g51 m) (g83l0M m) ls k)
theorem g83Ok (m : Nat) : RowOk Go.Proofs.Try.prog 83 (fun {α} => rowK g83tp g83bp (g83K (g83 (α := α) m))) := row_of (g83Fn m)

/-! ### g50: slices.ContainsFunc[[]int8,int8] -/
def g50b {α : Type} (G_g83 : {α : Type} → Nat → Nat → Nat → Nat → (List Int) → (Int → Option α) → Option α)  (m260 : Nat) (m261 : Nat) (m262 : Nat) (m263 : Nat) (u264 : List Int) (k296 : Bool → Option α) : Option α :=
  G_g83 m260 m261 m262 m263 u264
    (fun x294 =>
      k296 (decide (x294 ≥ (0 : Int))))
def g50 {α : Type} (m : Nat) : Nat → Nat → Nat → Nat → (List Int) → (Bool → Option α) → Option α :=
  g50b (g83 m)
def g50tp : List TP := [(.vl (.sv (.slc 0 0 1))), (.vl (.sv (.clo 51 [])))]
def g50bp : List BP := [(false, [(.seqv (.int .i8))])]
def g50K {α : Type} (G : Nat → Nat → Nat → Nat → (List Int) → (Bool → Option α) → Option α) (ls : List Lf) (k : TV → List (List Seg) → List (List Seg) → Option α) : Option α :=
  G (lf ls 0).nat (lf ls 1).nat (lf ls 2).nat (lf ls 3).nat ((lf ls 4).lst (.int .i8))
    (fun y0 => k (.vl (.sv (.bool y0))) [[(.seq (.int .i8) (lf ls 3).nat ((lf ls 4).lst (.int .i8)))]] [])
def g50hd (G_g83 : {α : Type} → Nat → Nat → Nat → Nat → (List Int) → (Int → Option α) → Option α)  : Hd where
  call := fun f args Bs k => cond (Nat.beq f 83) (rowK g83tp g83bp (g83K G_g83) args Bs k) (none)
  loop := fun id st k => none
  ro := fun f => cond (Nat.beq f 83) [0] ([])
def g50h (m : Nat) : Hd := g50hd (g83 m)
theorem g50Main (G_g83 : {α : Type} → Nat → Nat → Nat → Nat → (List Int) → (Int → Option α) → Option α)  {α : Type} (ls : List Lf) (k : TV → List (List Seg) → List (List Seg) → Option α) :
    g50K (g50b G_g83) ls k = evFun tab (g50hd G_g83) Go.Proofs.Try.f50 (fillT g50tp ls).1 (fillB g50bp (fillT g50tp ls).2).1 k := by kernel_rfl
theorem g50Calls (m : Nat) : (g50h m).CallsOk Go.Proofs.Try.prog := (cok_cons (g83Ok m) cok_nil)
theorem g50Fn (m : Nat) : FnOk Go.Proofs.Try.prog 50 g50tp g50bp (fun {α} => g50K (g50 (α := α) m)) :=
  fn_ok (tab := tab) (h := g50h m) (fn := Go.Proofs.Try.f50) (F := fun {α} => g50K (g50 (α := α) m)) tabOk (g50Calls m) mixed (by kernel_rfl) (by kernel_rfl) (fun c hc => by
    rw [bodyOf_some hc]
    exact loopsOk_of _ (fun p hp => by rw [show loopsOf (bodyOf Go.Proofs.Try.f50) = [] by kernel_rfl] at hp; cases hp))
    (fun α ls k => g50Main (g83 m) ls k)
theorem g50Ok (m : Nat) : RowOk Go.Proofs.Try.prog 50 (fun {α} => rowK g50tp g50bp (g50K (g50 (α := α) m))) := row_of (g50Fn m)

/-! ### g84: impl.wide -/
def g84b {α : Type}   (q321 : Bool) (u322 : List Int) (k324 : Bool → Option α) : Option α :=
  cond q321
   (
    k324 (!(eqLI u322 [0, 0, 0, 0, 0, 0])))
   (
    k324 false)
def g84 {α : Type} (m : Nat) : Bool → (List Int) → (Bool → Option α) → Option α :=
  g84b
def g84tp : List TP := [(.vl (.sv .bool)), (.vl (.agg [(.seq (.int .u32) 6)]))]
def g84bp : List BP := []
def g84K {α : Type} (G : Bool → (List Int) → (Bool → Option α) → Option α) (ls : List Lf) (k : TV → List (List Seg) → List (List Seg) → Option α) : Option α :=
  G (lf ls 0).bool ((lf ls 1).lst (.int .u32))
    (fun y0 => k (.vl (.agg [(.one (.bool y0)), (.seq (.int .u32) 6 ((lf ls 1).lst (.int .u32)))])) [] [])
def g84hd   : Hd where
  call := fun f args Bs k => none
  loop := fun id st k => none
  ro := fun f => []
def g84h (m : Nat) : Hd := g84hd
theorem g84Main   {α : Type} (ls : List Lf) (k : TV → List (List Seg) → List (List Seg) → Option α) :
    g84K (g84b) ls k = evFun tab (g84hd) Go.Proofs.Try.f84 (fillT g84tp ls).1 (fillB g84bp (fillT g84tp ls).2).1 k := by kernel_rfl
theorem g84Calls (m : Nat) : (g84h m).CallsOk Go.Proofs.Try.prog := cok_nil
theorem g84Fn (m : Nat) : FnOk Go.Proofs.Try.prog 84 g84tp g84bp (fun {α} => g84K (g84 (α := α) m)) :=
  fn_ok (tab := tab) (h := g84h m) (fn := Go.Proofs.Try.f84) (F := fun {α} => g84K (g84 (α := α) m)) tabOk (g84Calls m) mixed (by kernel_rfl) (by kernel_rfl) (fun c hc => by
    rw [bodyOf_some hc]
    exact loopsOk_of _ (fun p hp => by rw [show loopsOf (bodyOf Go.Proofs.Try.f84) = [] by kernel_rfl] at hp; cases hp))
    (fun α ls k => g84Main ls k)
theorem g84Ok (m : Nat) : RowOk Go.Proofs.Try.prog 84 (fun {α} => rowK g84tp g84bp (g84K (g84 (α := α) m))) := row_of (g84Fn m)

/-! ### g55: impl.WideOf -/
def g55b {α : Type} (G_g84 : {α : Type} → Bool → (List Int) → (Bool → Option α) → Option α)  (p313 : Int) (k331 : Bool → (List Int) → Option α) : Option α :=
  let x314 : Int := IntKind.wrap .u64 p313
  cond (decide (p313 < (0 : Int)))
   (
    let x316 : Int := IntKind.wrap .u64 (0 - x314)
    let x318 : Int := IntKind.wrap .u32 x316
    let x320 : Int := IntKind.wrap .u32 (Int.fdiv x316 (2 ^ 32))
    G_g84 (decide (p313 < (0 : Int))) [x318, x320, 0, 0, 0, 0]
      (fun b325 =>
        k331 b325 [x318, x320, 0, 0, 0, 0]))
   (
    let x327 : Int := IntKind.wrap .u32 x314
    let x329 : Int := IntKind.wrap .u32 (Int.fdiv x314 (2 ^ 32))
    G_g84 (decide (p313 < (0 : Int))) [x327, x329, 0, 0, 0, 0]
      (fun b330 =>
        k331 b330 [x327, x329, 0, 0, 0, 0]))
def g55 {α : Type} (m : Nat) : Int → (Bool → (List Int) → Option α) → Option α :=
  g55b (g84 m)
def g55tp : List TP := [(.vl (.sv (.int .i64)))]
def g55bp : List BP := []
def g55K {α : Type} (G : Int → (Bool → (List Int) → Option α) → Option α) (ls : List Lf) (k : TV → List (List Seg) → List (List Seg) → Option α) : Option α :=
  G (lf ls 0).int
    (fun y0 y1 => k (.vl (.agg [(.one (.bool y0)), (.seq (.int .u32) 6 y1)])) [] [])
def g55hd (G_g84 : {α : Type} → Bool → (List Int) → (Bool → Option α) → Option α)  : Hd where
  call := fun f args Bs k => cond (Nat.beq f 84) (rowK g84tp g84bp (g84K G_g84) args Bs k) (none)
  loop := fun id st k => none
  ro := fun f => []
def g55h (m : Nat) : Hd := g55hd (g84 m)
theorem g55Main (G_g84 : {α : Type} → Bool → (List Int) → (Bool → Option α) → Option α)  {α : Type} (ls : List Lf) (k : TV → List (List Seg) → List (List Seg) → Option α) :
    g55K (g55b G_g84) ls k = evFun tab (g55hd G_g84) Go.Proofs.Try.f55 (fillT g55tp ls).1 (fillB g55bp (fillT g55tp ls).2).1 k := by kernel_rfl
theorem g55Calls (m : Nat) : (g55h m).CallsOk Go.Proofs.Try.prog := (cok_cons (g84Ok m) cok_nil)
theorem g55Fn (m : Nat) : FnOk Go.Proofs.Try.prog 55 g55tp g55bp (fun {α} => g55K (g55 (α := α) m)) :=
  fn_ok (tab := tab) (h := g55h m) (fn := Go.Proofs.Try.f55) (F := fun {α} => g55K (g55 (α := α) m)) tabOk (g55Calls m) mixed (by kernel_rfl) (by kernel_rfl) (fun c hc => by
    rw [bodyOf_some hc]
    exact loopsOk_of _ (fun p hp => by rw [show loopsOf (bodyOf Go.Proofs.Try.f55) = [] by kernel_rfl] at hp; cases hp))
    (fun α ls k => g55Main (g84 m) ls k)
theorem g55Ok (m : Nat) : RowOk Go.Proofs.Try.prog 55 (fun {α} => rowK g55tp g55bp (g55K (g55 (α := α) m))) := row_of (g55Fn m)

/-! ### g86: (impl.size).times -/
def g86l2b {α : Type}   (v348 : Int) (v349 : Int) (a351 : List Int) (v352 : Int) (a353 : List Int) (a355 : List Int) (a356 : List Int) (k373 : Int → (List Int) → Option α) (r374 : Int → Int → (List Int) → Option α) (v350 : Int) (v354 : Int) (a357 : List Int) : Option α :=
  cond (decide (v354 < (6 : Int)))
   (
    if 0 ≤ v354 ∧ v354 < (6 : Nat) then
      let x363 : Int := IntKind.wrap .i64 (v348 + v354)
      if 0 ≤ x363 ∧ x363 < (12 : Nat) then
        if x363.toNat < 12 then
          let x367 : Int := IntKind.wrap .u64 (v350 + (IntKind.wrap .u64 ((IntKind.wrap .u64 ((IntKind.wrap .u64 v349) * (IntKind.wrap .u64 (List.getD a353 v354.toNat 0)))) + (IntKind.wrap .u64 (List.getD a357 x363.toNat 0)))))
          let x368 : Int := IntKind.wrap .i64 (v348 + v354)
          if 0 ≤ x368 ∧ x368 < (12 : Nat) then
            if x368.toNat < 12 then
              r374 (Int.fdiv x367 (2 ^ 32)) (IntKind.wrap .i64 (v354 + (1 : Int))) (List.set a357 (x368.toNat) (IntKind.wrap .u32 x367))
            else
              none
          else
            none
        else
          none
      else
        none
    else
      none)
   (
    k373 v350 a357)
def g86l2 {α : Type}   (v348 : Int) (v349 : Int) (a351 : List Int) (v352 : Int) (a353 : List Int) (a355 : List Int) (a356 : List Int) (k373 : Int → (List Int) → Option α) : Nat → Int → Int → (List Int) → Option α
  | 0 => fun _ _ _ => none
  | m + 1 => fun v350 v354 a357 => g86l2b v348 v349 a351 v352 a353 a355 a356 k373 (g86l2 v348 v349 a351 v352 a353 a355 a356 k373 m) v350 v354 a357
def g86l2M {α : Type} (m : Nat) : Int → Int → (List Int) → Int → (List Int) → (List Int) → (List Int) → (Int → (List Int) → Option α) → Int → Int → (List Int) → Option α :=
  fun v348 v349 a351 v352 a353 a355 a356 k373 v350 v354 a357 => g86l2 v348 v349 a351 v352 a353 a355 a356 k373 m v350 v354 a357
def g86l2D : LoopD := { n := 66, low := [], sl := [3, 4, 6, 7, 8, 9, 14, 15, 19, 20], bl := [1000000, 1000001, 1000002], tp := [(.vl (.sv (.ptr 1000000 0))), (.vl (.sv (.ptr 1000001 0))), (.vl (.sv (.ptr 1000002 0))), (.vl (.sv (.int .i64))), (.vl (.sv (.int .u32))), (.vl (.sv (.int .u64))), (.vl (.agg [(.seq (.int .u32) 6)])), (.vl (.sv (.int .i64))), (.vl (.agg [(.seq (.int .u32) 6)])), (.vl (.sv (.int .i64)))], bp := [(true, [(.seq (.int .u32) 6)]), (true, [(.seq (.int .u32) 6)]), (true, [(.seq (.int .u32) 12)])], xs := [(4, [3, 4, 6, 7, 9, 14, 15])] }
def g86l2K {α : Type} (L : Int → Int → (List Int) → Int → (List Int) → (List Int) → (List Int) → (Int → (List Int) → Option α) → Int → Int → (List Int) → Option α) (ls : List Lf) (k : Ex → St → Option α) : Option α :=
  L (lf ls 0).int (lf ls 1).int ((lf ls 3).lst (.int .u32)) (lf ls 4).int ((lf ls 5).lst (.int .u32)) ((lf ls 7).lst (.int .u32)) ((lf ls 8).lst (.int .u32))
    (fun y1 y6 => k .normal (mkSt 66 [3, 4, 6, 7, 9, 14, 15] [(.vl (.sv (.ptr 1000000 0))), (.vl (.sv (.ptr 1000001 0))), (.vl (.sv (.ptr 1000002 0))), (.vl (.sv (.int .i64 (lf ls 0).int))), (.vl (.sv (.int .u64 y1))), (.vl (.agg [(.seq (.int .u32) 6 ((lf ls 3).lst (.int .u32)))])), (.vl (.sv (.int .i64 (lf ls 4).int)))] [1000000, 1000001, 1000002] [(true, [(.seq (.int .u32) 6 ((lf ls 7).lst (.int .u32)))]), (true, [(.seq (.int .u32) 6 ((lf ls 8).lst (.int .u32)))]), (true, [(.seq (.int .u32) 12 y6)])]))
    (lf ls 2).int (lf ls 6).int ((lf ls 9).lst (.int .u32))
def g86l0b {α : Type}  (L_g86l2 : {α : Type} → Int → Int → (List Int) → Int → (List Int) → (List Int) → (List Int) → (Int → (List Int) → Option α) → Int → Int → (List Int) → Option α) (a341 : List Int) (a343 : List Int) (a344 : List Int) (k381 : (List Int) → Option α) (r382 : Int → (List Int) → Option α) (v342 : Int) (a345 : List Int) : Option α :=
  cond (decide (v342 < (6 : Int)))
   (
    if 0 ≤ v342 ∧ v342 < (6 : Nat) then
      L_g86l2 v342 (List.getD a341 v342.toNat 0) a341 v342 a343 a343 a344
        (fun x375 l376 =>
          let x377 : Int := IntKind.wrap .i64 (v342 + (6 : Int))
          if 0 ≤ x377 ∧ x377 < (12 : Nat) then
            if x377.toNat < 12 then
              r382 (IntKind.wrap .i64 (v342 + (1 : Int))) (List.set l376 (x377.toNat) (IntKind.wrap .u32 x375))
            else
              none
          else
            none)
        (0 : Int) (0 : Int) a345
    else
      none)
   (
    k381 a345)
def g86l0 {α : Type}  (L_g86l2 : {α : Type} → Int → Int → (List Int) → Int → (List Int) → (List Int) → (List Int) → (Int → (List Int) → Option α) → Int → Int → (List Int) → Option α) (a341 : List Int) (a343 : List Int) (a344 : List Int) (k381 : (List Int) → Option α) : Nat → Int → (List Int) → Option α
  | 0 => fun _ _ => none
  | m + 1 => fun v342 a345 => g86l0b L_g86l2 a341 a343 a344 k381 (g86l0 L_g86l2 a341 a343 a344 k381 m) v342 a345
def g86l0M {α : Type} (m : Nat) : (List Int) → (List Int) → (List Int) → ((List Int) → Option α) → Int → (List Int) → Option α :=
  fun a341 a343 a344 k381 v342 a345 => g86l0 (g86l2M m) a341 a343 a344 k381 m v342 a345
def g86l0D : LoopD := { n := 66, low := [], sl := [3, 4, 6, 14, 15], bl := [1000000, 1000001, 1000002], tp := [(.vl (.sv (.ptr 1000000 0))), (.vl (.sv (.ptr 1000001 0))), (.vl (.sv (.ptr 1000002 0))), (.vl (.agg [(.seq (.int .u32) 6)])), (.vl (.sv (.int .i64)))], bp := [(true, [(.seq (.int .u32) 6)]), (true, [(.seq (.int .u32) 6)]), (true, [(.seq (.int .u32) 12)])], xs := [(2, [4, 6])] }
def g86l0K {α : Type} (L : (List Int) → (List Int) → (List Int) → ((List Int) → Option α) → Int → (List Int) → Option α) (ls : List Lf) (k : Ex → St → Option α) : Option α :=
  L ((lf ls 0).lst (.int .u32)) ((lf ls 2).lst (.int .u32)) ((lf ls 3).lst (.int .u32))
    (fun y1 => k .normal (mkSt 66 [4, 6] [(.vl (.sv (.ptr 1000000 0))), (.vl (.sv (.ptr 1000001 0)))] [1000000, 1000001] [(true, [(.seq (.int .u32) 6 ((lf ls 3).lst (.int .u32)))]), (true, [(.seq (.int .u32) 12 y1)])]))
    (lf ls 1).int ((lf ls 4).lst (.int .u32))
def g86l4b {α : Type}   (m384 : Nat) (m385 : Nat) (m386 : Nat) (v387 : Int) (a389 : List Int) (a390 : List Int) (k395 : (List Int) → Option α) (k396 : Option α) (r397 : Int → Option α) (v388 : Int) : Option α :=
  cond (decide (v388 < v387))
   (
    if 0 ≤ v388 ∧ v388 < (m385 : Nat) then
      if (m384 + v388.toNat) < 12 then
        cond ((List.getD a390 (m384 + v388.toNat) 0) != (0 : Int))
         (
          k395 [0, 0, 0, 0, 0, 0])
         (
          r397 (IntKind.wrap .i64 (v388 + (1 : Int))))
      else
        none
    else
      none)
   (
    k396)
def g86l4 {α : Type}   (m384 : Nat) (m385 : Nat) (m386 : Nat) (v387 : Int) (a389 : List Int) (a390 : List Int) (k395 : (List Int) → Option α) (k396 : Option α) : Nat → Int → Option α
  | 0 => fun _ => none
  | m + 1 => fun v388 => g86l4b m384 m385 m386 v387 a389 a390 k395 k396 (g86l4 m384 m385 m386 v387 a389 a390 k395 k396 m) v388
def g86l4M {α : Type} (m : Nat) : Nat → Nat → Nat → Int → (List Int) → (List Int) → ((List Int) → Option α) → (Option α) → Int → Option α :=
  fun m384 m385 m386 v387 a389 a390 k395 k396 v388 => g86l4 m384 m385 m386 v387 a389 a390 k395 k396 m v388
def g86l4D : LoopD := { n := 66, low := [], sl := [4, 6, 53, 54, 55], bl := [1000000, 1000001], tp := [(.vl (.sv (.ptr 1000000 0))), (.vl (.sv (.ptr 1000001 0))), (.vl (.sv (.slc 1000001 0 1))), (.vl (.sv (.int .i64))), (.vl (.sv (.int .i64)))], bp := [(true, [(.seq (.int .u32) 6)]), (true, [(.seq (.int .u32) 12)])], xs := [(1, [4, 5]), (6, [4, 6])] }
def g86l4K {α : Type} (L : Nat → Nat → Nat → Int → (List Int) → (List Int) → ((List Int) → Option α) → (Option α) → Int → Option α) (ls : List Lf) (k : Ex → St → Option α) : Option α :=
  L (lf ls 0).nat (lf ls 1).nat (lf ls 2).nat (lf ls 3).int ((lf ls 5).lst (.int .u32)) ((lf ls 6).lst (.int .u32))
    (fun y1 => k .ret (mkSt 66 [4, 5] [(.vl (.sv (.ptr 1000000 0))), (.vl (.sv (.bool true)))] [1000000] [(true, [(.seq (.int .u32) 6 y1)])]))
    (k .normal (mkSt 66 [4, 6] [(.vl (.sv (.ptr 1000000 0))), (.vl (.sv (.ptr 1000001 0)))] [1000000, 1000001] [(true, [(.seq (.int .u32) 6 ((lf ls 5).lst (.int .u32)))]), (true, [(.seq (.int .u32) 12 ((lf ls 6).lst (.int .u32)))])]))
    (lf ls 4).int
def g86b {α : Type}  (L_g86l2 : {α : Type} → Int → Int → (List Int) → Int → (List Int) → (List Int) → (List Int) → (Int → (List Int) → Option α) → Int → Int → (List Int) → Option α) (L_g86l0 : {α : Type} → (List Int) → (List Int) → (List Int) → ((List Int) → Option α) → Int → (List Int) → Option α) (L_g86l4 : {α : Type} → Nat → Nat → Nat → Int → (List Int) → (List Int) → ((List Int) → Option α) → (Option α) → Int → Option α) (u339 : List Int) (u340 : List Int) (k400 : (List Int) → Bool → Option α) : Option α :=
  L_g86l0 u339 u340 [0, 0, 0, 0, 0, 0]
    (fun l383 =>
      L_g86l4 6 6 6 (6 : Int) [0, 0, 0, 0, 0, 0] l383
        (fun l398 =>
          k400 l398 true)
        (
          k400 (List.take 6 (List.drop 0 l383)) false)
        (0 : Int))
    (0 : Int) [0, 0, 0, 0, 0, 0, 0, 0, 0, 0, 0, 0]
def g86 {α : Type} (m : Nat) : (List Int) → (List Int) → ((List Int) → Bool → Option α) → Option α :=
  g86b (g86l2M m) (g86l0M m) (g86l4M m)
def g86tp : List TP := [(.vl (.agg [(.seq (.int .u32) 6)])), (.vl (.agg [(.seq (.int .u32) 6)]))]
def g86bp : List BP := []
def g86K {α : Type} (G : (List Int) → (List Int) → ((List Int) → Bool → Option α) → Option α) (ls : List Lf) (k : TV → List (List Seg) → List (List Seg) → Option α) : Option α :=
  G ((lf ls 0).lst (.int .u32)) ((lf ls 1).lst (.int .u32))
    (fun y0 y1 => k (.tup [(.agg [(.seq (.int .u32) 6 y0)]), (.sv (.bool y1))]) [] [])
def g86hd  (L_g86l2 : {α : Type} → Int → Int → (List Int) → Int → (List Int) → (List Int) → (List Int) → (Int → (List Int) → Option α) → Int → Int → (List Int) → Option α) (L_g86l0 : {α : Type} → (List Int) → (List Int) → (List Int) → ((List Int) → Option α) → Int → (List Int) → Option α) (L_g86l4 : {α : Type} → Nat → Nat → Nat → Int → (List Int) → (List Int) → ((List Int) → Option α) → (Option α) → Int → Option α) : Hd where
  call := fun f args Bs k => none
  loop := fun id st k => cond (Nat.beq id 2) (loopH g86l2D (g86l2K L_g86l2) st k) (cond (Nat.beq id 0) (loopH g86l0D (g86l0K L_g86l0) st k) (cond (Nat.beq id 4) (loopH g86l4D (g86l4K L_g86l4) st k) (none)))
  ro := fun f => []
def g86h (m : Nat) : Hd := g86hd (g86l2M m) (g86l0M m) (g86l4M m)
theorem g86l2Step  (L_g86l2 : {α : Type} → Int → Int → (List Int) → Int → (List Int) → (List Int) → (List Int) → (Int → (List Int) → Option α) → Int → Int → (List Int) → Option α) (L_g86l0 : {α : Type} → (List Int) → (List Int) → (List Int) → ((List Int) → Option α) → Int → (List Int) → Option α) (L_g86l4 : {α : Type} → Nat → Nat → Nat → Int → (List Int) → (List Int) → ((List Int) → Option α) → (Option α) → Int → Option α) {α : Type} (L : Int → Int → (List Int) → Int → (List Int) → (List Int) → (List Int) → (Int → (List Int) → Option α) → Int → Int → (List Int) → Option α) (ls : List Lf) (k : Ex → St → Option α) :
    g86l2K (fun v348 v349 a351 v352 a353 a355 a356 k373 v350 v354 a357 => g86l2b v348 v349 a351 v352 a353 a355 a356 k373 (L v348 v349 a351 v352 a353 a355 a356 k373) v350 v354 a357) ls k = ev tab (g86hd L_g86l2 L_g86l0 L_g86l4) (bodyAt Go.Proofs.Try.f86 2) (atHead g86l2D ls) (loopK g86l2D 2 (loopH g86l2D (g86l2K L)) k) := by kernel_rfl
theorem g86l0Step  (L_g86l2 : {α : Type} → Int → Int → (List Int) → Int → (List Int) → (List Int) → (List Int) → (Int → (List Int) → Option α) → Int → Int → (List Int) → Option α) (L_g86l0 : {α : Type} → (List Int) → (List Int) → (List Int) → ((List Int) → Option α) → Int → (List Int) → Option α) (L_g86l4 : {α : Type} → Nat → Nat → Nat → Int → (List Int) → (List Int) → ((List Int) → Option α) → (Option α) → Int → Option α) {α : Type} (L : (List Int) → (List Int) → (List Int) → ((List Int) → Option α) → Int → (List Int) → Option α) (ls : List Lf) (k : Ex → St → Option α) :
    g86l0K (fun a341 a343 a344 k381 v342 a345 => g86l0b L_g86l2 a341 a343 a344 k381 (L a341 a343 a344 k381) v342 a345) ls k = ev tab (g86hd L_g86l2 L_g86l0 L_g86l4) (bodyAt Go.Proofs.Try.f86 0) (atHead g86l0D ls) (loopK g86l0D 0 (loopH g86l0D (g86l0K L)) k) := by kernel_rfl
theorem g86l4Step  (L_g86l2 : {α : Type} → Int → Int → (List Int) → Int → (List Int) → (List Int) → (List Int) → (Int → (List Int) → Option α) → Int → Int → (List Int) → Option α) (L_g86l0 : {α : Type} → (List Int) → (List Int) → (List Int) → ((List Int) → Option α) → Int → (List Int) → Option α) (L_g86l4 : {α : Type} → Nat → Nat → Nat → Int → (List Int) → (List Int) → ((List Int) → Option α) → (Option α) → Int → Option α) {α : Type} (L : Nat → Nat → Nat → Int → (List Int) → (List Int) → ((List Int) → Option α) → (Option α) → Int → Option α) (ls : List Lf) (k : Ex → St → Option α) :
    g86l4K (fun m384 m385 m386 v387 a389 a390 k395 k396 v388 => g86l4b m384 m385 m386 v387 a389 a390 k395 k396 (L m384 m385 m386 v387 a389 a390 k395 k396) v388) ls k = ev tab (g86hd L_g86l2 L_g86l0 L_g86l4) (bodyAt Go.Proofs.Try.f86 4) (atHead g86l4D ls) (loopK g86l4D 4 (loopH g86l4D (g86l4K L)) k) := by kernel_rfl
theorem g86Main  (L_g86l2 : {α : Type} → Int → Int → (List Int) → Int → (List Int) → (List Int) → (List Int) → (Int → (List Int) → Option α) → Int → Int → (List Int) → Option α) (L_g86l0 : {α : Type} → (List Int) → (List Int) → (List Int) → ((List Int) → Option α) → Int → (List Int) → Option α) (L_g86l4 : {α : Type} → Nat → Nat → Nat → Int → (List Int) → (List Int) → ((List Int) → Option α) → (Option α) → Int → Option α) {α : Type} (ls : List Lf) (k : TV → List (List Seg) → List (List Seg) → Option α) :
    g86K (g86b L_g86l2 L_g86l0 L_g86l4) ls k = evFun tab (g86hd L_g86l2 L_g86l0 L_g86l4) Go.Proofs.Try.f86 (fillT g86tp ls).1 (fillB g86bp (fillT g86tp ls).2).1 k := by kernel_rfl
theorem g86Calls (m : Nat) : (g86h m).CallsOk Go.Proofs.Try.prog := cok_nil
theorem g86l2Ok (m : Nat) (α : Type) (st : St) (k : Ex → St → Option α) (r : α) (h : (g86h m).loop 2 st k = some r) :
    ∃ e st', k e st' = some r ∧ CodeS Go.Proofs.Try.prog (.block 2 (.loop (bodyAt Go.Proofs.Try.f86 2))) st e st' :=
  loop_ok (tab := tab) (h := g86h m) (F := fun n ls k => g86l2K (fun v348 v349 a351 v352 a353 a355 a356 k373 v350 v354 a357 => g86l2 v348 v349 a351 v352 a353 a355 a356 k373 n v350 v354 a357) ls k) tabOk (g86Calls m) mixed (loopsOk_of _ (fun p hp => by rw [show loopsOf (bodyAt Go.Proofs.Try.f86 2) = [] by kernel_rfl] at hp; cases hp))
    (fun _ _ => rfl) (fun n ls k => g86l2Step (g86l2M m) (g86l0M m) (g86l4M m) (fun v348 v349 a351 v352 a353 a355 a356 k373 => g86l2 v348 v349 a351 v352 a353 a355 a356 k373 n) ls k) (n := m) h
theorem g86l0Ok (m : Nat) (α : Type) (st : St) (k : Ex → St → Option α) (r : α) (h : (g86h m).loop 0 st k = some r) :
    ∃ e st', k e st' = some r ∧ CodeS Go.Proofs.Try.prog (.block 0 (.loop (bodyAt Go.Proofs.Try.f86 0))) st e st' :=
  loop_ok (tab := tab) (h := g86h m) (F := fun n ls k => g86l0K (fun a341 a343 a344 k381 v342 a345 => g86l0 (g86l2M m) a341 a343 a344 k381 n v342 a345) ls k) tabOk (g86Calls m) mixed (loopsOk_of _ (fun p hp => by
    rw [show loopsOf (bodyAt Go.Proofs.Try.f86 0) = [(2, bodyAt Go.Proofs.Try.f86 2)] by kernel_rfl] at hp
    simp only [List.mem_cons, List.not_mem_nil, or_false] at hp
    rcases hp with rfl
    exact g86l2Ok m))
    (fun _ _ => rfl) (fun n ls k => g86l0Step (g86l2M m) (g86l0M m) (g86l4M m) (fun a341 a343 a344 k381 => g86l0 (g86l2M m) a341 a343 a344 k381 n) ls k) (n := m) h
theorem g86l4Ok (m : Nat) (α : Type) (st : St) (k : Ex → St → Option α) (r : α) (h : (g86h m).loop 4 st k = some r) :
    ∃ e st', k e st' = some r ∧ CodeS Go.Proofs.Try.prog (.block 4 (.loop (bodyAt Go.Proofs.Try.f86 4))) st e st' :=
  loop_ok (tab := tab) (h := g86h m) (F := fun n ls k => g86l4K (fun m384 m385 m386 v387 a389 a390 k395 k396 v388 => g86l4 m384 m385 m386 v387 a389 a390 k395 k396 n v388) ls k) tabOk (g86Calls m) mixed (loopsOk_of _ (fun p hp => by rw [show loopsOf (bodyAt Go.Proofs.Try.f86 4) = [] by kernel_rfl] at hp; cases hp))
    (fun _ _ => rfl) (fun n ls k => g86l4Step (g86l2M m) (g86l0M m) (g86l4M m) (fun m384 m385 m386 v387 a389 a390 k395 k396 => g86l4 m384 m385 m386 v387 a389 a390 k395 k396 n) ls k) (n := m) h
theorem g86Fn (m : Nat) : FnOk Go.Proofs.Try.prog 86 g86tp g86bp (fun {α} => g86K (g86 (α := α) m)) :=
  fn_ok (tab := tab) (h := g86h m) (fn := Go.Proofs.Try.f86) (F := fun {α} => g86K (g86 (α := α) m)) tabOk (g86Calls m) mixed (by kernel_rfl) (by kernel_rfl) (fun c hc => by
    rw [bodyOf_some hc]
    exact loopsOk_of _ (fun p hp => by
    rw [show loopsOf (bodyOf Go.Proofs.Try.f86) = [(0, bodyAt Go.Proofs.Try.f86 0), (4, bodyAt Go.Proofs.Try.f86 4)] by kernel_rfl] at hp
    simp only [List.mem_cons, List.not_mem_nil, or_false] at hp
    rcases hp with rfl | rfl
    · exact g86l0Ok m
    · exact g86l4Ok m))
    (fun α ls k => g86Main (g86l2M m) (g86l0M m) (g86l4M m) ls k)
theorem g86Ok (m : Nat) : RowOk Go.Proofs.Try.prog 86 (fun {α} => rowK g86tp g86bp (g86K (g86 (α := α) m))) := row_of (g86Fn m)

/-! ### g54: (*impl.calc).mul -/
def g54b {α : Type} (G_g86 : {α : Type} → (List Int) → (List Int) → ((List Int) → Bool → Option α) → Option α) (G_g84 : {α : Type} → Bool → (List Int) → (Bool → Option α) → Option α)  (q334 : Bool) (u335 : List Int) (q336 : Bool) (u337 : List Int) (q338 : Bool) (k407 : Bool → (List Int) → Bool → Option α) : Option α :=
  G_g86 u335 u337
    (fun l401 b402 =>
      cond q338
       (
        G_g84 (!(q334 == q336)) l401
          (fun b404 =>
            k407 b404 l401 true))
       (
        G_g84 (!(q334 == q336)) l401
          (fun b406 =>
            k407 b406 l401 b402)))
def g54 {α : Type} (m : Nat) : Bool → (List Int) → Bool → (List Int) → Bool → (Bool → (List Int) → Bool → Option α) → Option α :=
  g54b (g86 m) (g84 m)
def g54tp : List TP := [(.vl (.sv (.ptr 0 0))), (.vl (.agg [(.one .bool), (.seq (.int .u32) 6)])), (.vl (.agg [(.one .bool), (.seq (.int .u32) 6)]))]
def g54bp : List BP := [(true, [(.one .bool)])]
def g54K {α : Type} (G : Bool → (List Int) → Bool → (List Int) → Bool → (Bool → (List Int) → Bool → Option α) → Option α) (ls : List Lf) (k : TV → List (List Seg) → List (List Seg) → Option α) : Option α :=
  G (lf ls 0).bool ((lf ls 1).lst (.int .u32)) (lf ls 2).bool ((lf ls 3).lst (.int .u32)) (lf ls 4).bool
    (fun y0 y1 y2 => k (.vl (.agg [(.one (.bool y0)), (.seq (.int .u32) 6 y1)])) [[(.one (.bool y2))]] [])
def g54hd (G_g86 : {α : Type} → (List Int) → (List Int) → ((List Int) → Bool → Option α) → Option α) (G_g84 : {α : Type} → Bool → (List Int) → (Bool → Option α) → Option α)  : Hd where
  call := fun f args Bs k => cond (Nat.beq f 86) (rowK g86tp g86bp (g86K G_g86) args Bs k) (cond (Nat.beq f 84) (rowK g84tp g84bp (g84K G_g84) args Bs k) (none))
  loop := fun id st k => none
  ro := fun f => []
def g54h (m : Nat) : Hd := g54hd (g86 m) (g84 m)
theorem g54Main (G_g86 : {α : Type} → (List Int) → (List Int) → ((List Int) → Bool → Option α) → Option α) (G_g84 : {α : Type} → Bool → (List Int) → (Bool → Option α) → Option α)  {α : Type} (ls : List Lf) (k : TV → List (List Seg) → List (List Seg) → Option α) :
    g54K (g54b G_g86 G_g84) ls k = evFun tab (g54hd G_g86 G_g84) Go.Proofs.Try.f54 (fillT g54tp ls).1 (fillB g54bp (fillT g54tp ls).2).1 k := by kernel_rfl
theorem g54Calls (m : Nat) : (g54h m).CallsOk Go.Proofs.Try.prog := (cok_cons (g86Ok m) (cok_cons (g84Ok m) cok_nil))
theorem g54Fn (m : Nat) : FnOk Go.Proofs.Try.prog 54 g54tp g54bp (fun {α} => g54K (g54 (α := α) m)) :=
  fn_ok (tab := tab) (h := g54h m) (fn := Go.Proofs.Try.f54) (F := fun {α} => g54K (g54 (α := α) m)) tabOk (g54Calls m) mixed (by kernel_rfl) (by kernel_rfl) (fun c hc => by
    rw [bodyOf_some hc]
    exact loopsOk_of _ (fun p hp => by rw [show loopsOf (bodyOf Go.Proofs.Try.f54) = [] by kernel_rfl] at hp; cases hp))
    (fun α ls k => g54Main (g86 m) (g84 m) ls k)
theorem g54Ok (m : Nat) : RowOk Go.Proofs.Try.prog 54 (fun {α} => rowK g54tp g54bp (g54K (g54 (α := α) m))) := row_of (g54Fn m)

/-! ### g69: (impl.size).plus -/
def g69l0b {α : Type}   (a425 : List Int) (a426 : List Int) (k438 : Int → (List Int) → Option α) (r439 : Int → Int → (List Int) → Option α) (v422 : Int) (v423 : Int) (a424 : List Int) : Option α :=
  cond (decide (v423 < (6 : Int)))
   (
    if 0 ≤ v423 ∧ v423 < (6 : Nat) then
      if v423.toNat < 6 then
        if 0 ≤ v423 ∧ v423 < (6 : Nat) then
          if v423.toNat < 6 then
            let x433 : Int := IntKind.wrap .u64 (v422 + (IntKind.wrap .u64 ((IntKind.wrap .u64 (List.getD a424 v423.toNat 0)) + (IntKind.wrap .u64 (List.getD a425 v423.toNat 0)))))
            if 0 ≤ v423 ∧ v423 < (6 : Nat) then
              if v423.toNat < 6 then
                r439 (Int.fdiv x433 (2 ^ 32)) (IntKind.wrap .i64 (v423 + (1 : Int))) (List.set a424 (v423.toNat) (IntKind.wrap .u32 x433))
              else
                none
            else
              none
          else
            none
        else
          none
      else
        none
    else
      none)
   (
    k438 v422 a424)
def g69l0 {α : Type}   (a425 : List Int) (a426 : List Int) (k438 : Int → (List Int) → Option α) : Nat → Int → Int → (List Int) → Option α
  | 0 => fun _ _ _ => none
  | m + 1 => fun v422 v423 a424 => g69l0b a425 a426 k438 (g69l0 a425 a426 k438 m) v422 v423 a424
def g69l0M {α : Type} (m : Nat) : (List Int) → (List Int) → (Int → (List Int) → Option α) → Int → Int → (List Int) → Option α :=
  fun a425 a426 k438 v422 v423 a424 => g69l0 a425 a426 k438 m v422 v423 a424
def g69l0D : LoopD := { n := 32, low := [], sl := [2, 3, 4, 6, 8], bl := [1000000, 1000001, 1000002], tp := [(.vl (.sv (.ptr 1000000 0))), (.vl (.sv (.ptr 1000001 0))), (.vl (.sv (.ptr 1000002 0))), (.vl (.sv (.int .u64))), (.vl (.sv (.int .i64)))], bp := [(true, [(.seq (.int .u32) 6)]), (true, [(.seq (.int .u32) 6)]), (true, [(.seq (.int .u32) 6)])], xs := [(2, [2, 4, 6])] }
def g69l0K {α : Type} (L : (List Int) → (List Int) → (Int → (List Int) → Option α) → Int → Int → (List Int) → Option α) (ls : List Lf) (k : Ex → St → Option α) : Option α :=
  L ((lf ls 3).lst (.int .u32)) ((lf ls 4).lst (.int .u32))
    (fun y0 y1 => k .normal (mkSt 32 [2, 4, 6] [(.vl (.sv (.ptr 1000000 0))), (.vl (.sv (.ptr 1000001 0))), (.vl (.sv (.int .u64 y0)))] [1000000, 1000001] [(true, [(.seq (.int .u32) 6 y1)]), (true, [(.seq (.int .u32) 6 ((lf ls 4).lst (.int .u32)))])]))
    (lf ls 0).int (lf ls 1).int ((lf ls 2).lst (.int .u32))
def g69b {α : Type}  (L_g69l0 : {α : Type} → (List Int) → (List Int) → (Int → (List Int) → Option α) → Int → Int → (List Int) → Option α) (u420 : List Int) (u421 : List Int) (k443 : (List Int) → Bool → Option α) : Option α :=
  L_g69l0 u421 [0, 0, 0, 0, 0, 0]
    (fun x440 l441 =>
      k443 l441 (x440 != (0 : Int)))
    (0 : Int) (0 : Int) u420
def g69 {α : Type} (m : Nat) : (List Int) → (List Int) → ((List Int) → Bool → Option α) → Option α :=
  g69b (g69l0M m)
def g69tp : List TP := [(.vl (.agg [(.seq (.int .u32) 6)])), (.vl (.agg [(.seq (.int .u32) 6)]))]
def g69bp : List BP := []
def g69K {α : Type} (G : (List Int) → (List Int) → ((List Int) → Bool → Option α) → Option α) (ls : List Lf) (k : TV → List (List Seg) → List (List Seg) → Option α) : Option α :=
  G ((lf ls 0).lst (.int .u32)) ((lf ls 1).lst (.int .u32))
    (fun y0 y1 => k (.tup [(.agg [(.seq (.int .u32) 6 y0)]), (.sv (.bool y1))]) [] [])
def g69hd  (L_g69l0 : {α : Type} → (List Int) → (List Int) → (Int → (List Int) → Option α) → Int → Int → (List Int) → Option α) : Hd where
  call := fun f args Bs k => none
  loop := fun id st k => cond (Nat.beq id 0) (loopH g69l0D (g69l0K L_g69l0) st k) (none)
  ro := fun f => []
def g69h (m : Nat) : Hd := g69hd (g69l0M m)
theorem g69l0Step  (L_g69l0 : {α : Type} → (List Int) → (List Int) → (Int → (List Int) → Option α) → Int → Int → (List Int) → Option α) {α : Type} (L : (List Int) → (List Int) → (Int → (List Int) → Option α) → Int → Int → (List Int) → Option α) (ls : List Lf) (k : Ex → St → Option α) :
    g69l0K (fun a425 a426 k438 v422 v423 a424 => g69l0b a425 a426 k438 (L a425 a426 k438) v422 v423 a424) ls k = ev tab (g69hd L_g69l0) (bodyAt Go.Proofs.Try.f69 0) (atHead g69l0D ls) (loopK g69l0D 0 (loopH g69l0D (g69l0K L)) k) := by kernel_rfl
theorem g69Main  (L_g69l0 : {α : Type} → (List Int) → (List Int) → (Int → (List Int) → Option α) → Int → Int → (List Int) → Option α) {α : Type} (ls : List Lf) (k : TV → List (List Seg) → List (List Seg) → Option α) :
    g69K (g69b L_g69l0) ls k = evFun tab (g69hd L_g69l0) Go.Proofs.Try.f69 (fillT g69tp ls).1 (fillB g69bp (fillT g69tp ls).2).1 k := by kernel_rfl
theorem g69Calls (m : Nat) : (g69h m).CallsOk Go.Proofs.Try.prog := cok_nil
theorem g69l0Ok (m : Nat) (α : Type) (st : St) (k : Ex → St → Option α) (r : α) (h : (g69h m).loop 0 st k = some r) :
    ∃ e st', k e st' = some r ∧ CodeS Go.Proofs.Try.prog (.block 0 (.loop (bodyAt Go.Proofs.Try.f69 0))) st e st' :=
  loop_ok (tab := tab) (h := g69h m) (F := fun n ls k => g69l0K (fun a425 a426 k438 v422 v423 a424 => g69l0 a425 a426 k438 n v422 v423 a424) ls k) tabOk (g69Calls m) mixed (loopsOk_of _ (fun p hp => by rw [show loopsOf (bodyAt Go.Proofs.Try.f69 0) = [] by kernel_rfl] at hp; cases hp))
    (fun _ _ => rfl) (fun n ls k => g69l0Step (g69l0M m) (fun a425 a426 k438 => g69l0 a425 a426 k438 n) ls k) (n := m) h
theorem g69Fn (m : Nat) : FnOk Go.Proofs.Try.prog 69 g69tp g69bp (fun {α} => g69K (g69 (α := α) m)) :=
  fn_ok (tab := tab) (h := g69h m) (fn := Go.Proofs.Try.f69) (F := fun {α} => g69K (g69 (α := α) m)) tabOk (g69Calls m) mixed (by kernel_rfl) (by kernel_rfl) (fun c hc => by
    rw [bodyOf_some hc]
    exact loopsOk_of _ (fun p hp => by
    rw [show loopsOf (bodyOf Go.Proofs.Try.f69) = [(0, bodyAt Go.Proofs.Try.f69 0)] by kernel_rfl] at hp
    simp only [List.mem_cons, List.not_mem_nil, or_false] at hp
    rcases hp with rfl
    exact g69l0Ok m))
    (fun α ls k => g69Main (g69l0M m) ls k)
theorem g69Ok (m : Nat) : RowOk Go.Proofs.Try.prog 69 (fun {α} => rowK g69tp g69bp (g69K (g69 (α := α) m))) := row_of (g69Fn m)

/-! ### g70: (impl.size).compare -/
def g70l0b {α : Type}   (a451 : List Int) (a452 : List Int) (k461 : Int → Option α) (k462 : Option α) (r463 : Int → Option α) (v450 : Int) : Option α :=
  cond (decide (v450 ≥ (0 : Int)))
   (
    if 0 ≤ v450 ∧ v450 < (6 : Nat) then
      if v450.toNat < 6 then
        if 0 ≤ v450 ∧ v450 < (6 : Nat) then
          if v450.toNat < 6 then
            cond ((List.getD a451 v450.toNat 0) != (List.getD a452 v450.toNat 0))
             (
              if 0 ≤ v450 ∧ v450 < (6 : Nat) then
                if v450.toNat < 6 then
                  if 0 ≤ v450 ∧ v450 < (6 : Nat) then
                    if v450.toNat < 6 then
                      cond (decide ((List.getD a451 v450.toNat 0) < (List.getD a452 v450.toNat 0)))
                       (
                        k461 (-1 : Int))
                       (
                        k461 (1 : Int))
                    else
                      none
                  else
                    none
                else
                  none
              else
                none)
             (
              r463 (IntKind.wrap .i64 (v450 - (1 : Int))))
          else
            none
        else
          none
      else
        none
    else
      none)
   (
    k462)
def g70l0 {α : Type}   (a451 : List Int) (a452 : List Int) (k461 : Int → Option α) (k462 : Option α) : Nat → Int → Option α
  | 0 => fun _ => none
  | m + 1 => fun v450 => g70l0b a451 a452 k461 k462 (g70l0 a451 a452 k461 k462 m) v450
def g70l0M {α : Type} (m : Nat) : (List Int) → (List Int) → (Int → Option α) → (Option α) → Int → Option α :=
  fun a451 a452 k461 k462 v450 => g70l0 a451 a452 k461 k462 m v450
def g70l0D : LoopD := { n := 24, low := [], sl := [2, 3, 5], bl := [1000000, 1000001], tp := [(.vl (.sv (.ptr 1000000 0))), (.vl (.sv (.ptr 1000001 0))), (.vl (.sv (.int .i64)))], bp := [(true, [(.seq (.int .u32) 6)]), (true, [(.seq (.int .u32) 6)])], xs := [(1, [4]), (2, [])] }
def g70l0K {α : Type} (L : (List Int) → (List Int) → (Int → Option α) → (Option α) → Int → Option α) (ls : List Lf) (k : Ex → St → Option α) : Option α :=
  L ((lf ls 1).lst (.int .u32)) ((lf ls 2).lst (.int .u32))
    (fun y0 => k .ret (mkSt 24 [4] [(.vl (.sv (.int .i64 y0)))] [] []))
    (k .normal (mkSt 24 [] [] [] []))
    (lf ls 0).int
def g70b {α : Type}  (L_g70l0 : {α : Type} → (List Int) → (List Int) → (Int → Option α) → (Option α) → Int → Option α) (u448 : List Int) (u449 : List Int) (k465 : Int → Option α) : Option α :=
  L_g70l0 u448 u449
    (fun x464 =>
      k465 x464)
    (
      k465 (0 : Int))
    (5 : Int)
def g70 {α : Type} (m : Nat) : (List Int) → (List Int) → (Int → Option α) → Option α :=
  g70b (g70l0M m)
def g70tp : List TP := [(.vl (.agg [(.seq (.int .u32) 6)])), (.vl (.agg [(.seq (.int .u32) 6)]))]
def g70bp : List BP := []
def g70K {α : Type} (G : (List Int) → (List Int) → (Int → Option α) → Option α) (ls : List Lf) (k : TV → List (List Seg) → List (List Seg) → Option α) : Option α :=
  G ((lf ls 0).lst (.int .u32)) ((lf ls 1).lst (.int .u32))
    (fun y0 => k (.vl (.sv (.int .i64 y0))) [] [])
def g70hd  (L_g70l0 : {α : Type} → (List Int) → (List Int) → (Int → Option α) → (Option α) → Int → Option α) : Hd where
  call := fun f args Bs k => none
  loop := fun id st k => cond (Nat.beq id 0) (loopH g70l0D (g70l0K L_g70l0) st k) (none)
  ro := fun f => []
def g70h (m : Nat) : Hd := g70hd (g70l0M m)
theorem g70l0Step  (L_g70l0 : {α : Type} → (List Int) → (List Int) → (Int → Option α) → (Option α) → Int → Option α) {α : Type} (L : (List Int) → (List Int) → (Int → Option α) → (Option α) → Int → Option α) (ls : List Lf) (k : Ex → St → Option α) :
    g70l0K (fun a451 a452 k461 k462 v450 => g70l0b a451 a452 k461 k462 (L a451 a452 k461 k462) v450) ls k = ev tab (g70hd L_g70l0) (bodyAt Go.Proofs.Try.f70 0) (atHead g70l0D ls) (loopK g70l0D 0 (loopH g70l0D (g70l0K L)) k) := by kernel_rfl
theorem g70Main  (L_g70l0 : {α : Type} → (List Int) → (List Int) → (Int → Option α) → (Option α) → Int → Option α) {α : Type} (ls : List Lf) (k : TV → List (List Seg) → List (List Seg) → Option α) :
    g70K (g70b L_g70l0) ls k = evFun tab (g70hd L_g70l0) Go.Proofs.Try.f70 (fillT g70tp ls).1 (fillB g70bp (fillT g70tp ls).2).1 k := by kernel_rfl
theorem g70Calls (m : Nat) : (g70h m).CallsOk Go.Proofs.Try.prog := cok_nil
theorem g70l0Ok (m : Nat) (α : Type) (st : St) (k : Ex → St → Option α) (r : α) (h : (g70h m).loop 0 st k = some r) :
    ∃ e st', k e st' = some r ∧ CodeS Go.Proofs.Try.prog (.block 0 (.loop (bodyAt Go.Proofs.Try.f70 0))) st e st' :=
  loop_ok (tab := tab) (h := g70h m) (F := fun n ls k => g70l0K (fun a451 a452 k461 k462 v450 => g70l0 a451 a452 k461 k462 n v450) ls k) tabOk (g70Calls m) mixed (loopsOk_of _ (fun p hp => by rw [show loopsOf (bodyAt Go.Proofs.Try.f70 0) = [] by kernel_rfl] at hp; cases hp))
    (fun _ _ => rfl) (fun n ls k => g70l0Step (g70l0M m) (fun a451 a452 k461 k462 => g70l0 a451 a452 k461 k462 n) ls k) (n := m) h
theorem g70Fn (m : Nat) : FnOk Go.Proofs.Try.prog 70 g70tp g70bp (fun {α} => g70K (g70 (α := α) m)) :=
  fn_ok (tab := tab) (h := g70h m) (fn := Go.Proofs.Try.f70) (F := fun {α} => g70K (g70 (α := α) m)) tabOk (g70Calls m) mixed (by kernel_rfl) (by kernel_rfl) (fun c hc => by
    rw [bodyOf_some hc]
    exact loopsOk_of _ (fun p hp => by
    rw [show loopsOf (bodyOf Go.Proofs.Try.f70) = [(0, bodyAt Go.Proofs.Try.f70 0)] by kernel_rfl] at hp
    simp only [List.mem_cons, List.not_mem_nil, or_false] at hp
    rcases hp with rfl
    exact g70l0Ok m))
    (fun α ls k => g70Main (g70l0M m) ls k)
theorem g70Ok (m : Nat) : RowOk Go.Proofs.Try.prog 70 (fun {α} => rowK g70tp g70bp (g70K (g70 (α := α) m))) := row_of (g70Fn m)

/-! ### g85: (impl.size).minus -/
def g85l0b {α : Type}   (a473 : List Int) (a474 : List Int) (k486 : (List Int) → Option α) (r487 : Int → Int → (List Int) → Option α) (v470 : Int) (v471 : Int) (a472 : List Int) : Option α :=
  cond (decide (v471 < (6 : Int)))
   (
    if 0 ≤ v471 ∧ v471 < (6 : Nat) then
      if v471.toNat < 6 then
        if 0 ≤ v471 ∧ v471 < (6 : Nat) then
          if v471.toNat < 6 then
            let x481 : Int := IntKind.wrap .u64 ((IntKind.wrap .u64 ((IntKind.wrap .u64 (List.getD a472 v471.toNat 0)) - (IntKind.wrap .u64 (List.getD a473 v471.toNat 0)))) - v470)
            if 0 ≤ v471 ∧ v471 < (6 : Nat) then
              if v471.toNat < 6 then
                r487 (Int.fdiv x481 (2 ^ 63)) (IntKind.wrap .i64 (v471 + (1 : Int))) (List.set a472 (v471.toNat) (IntKind.wrap .u32 x481))
              else
                none
            else
              none
          else
            none
        else
          none
      else
        none
    else
      none)
   (
    k486 a472)
def g85l0 {α : Type}   (a473 : List Int) (a474 : List Int) (k486 : (List Int) → Option α) : Nat → Int → Int → (List Int) → Option α
  | 0 => fun _ _ _ => none
  | m + 1 => fun v470 v471 a472 => g85l0b a473 a474 k486 (g85l0 a473 a474 k486 m) v470 v471 a472
def g85l0M {α : Type} (m : Nat) : (List Int) → (List Int) → ((List Int) → Option α) → Int → Int → (List Int) → Option α :=
  fun a473 a474 k486 v470 v471 a472 => g85l0 a473 a474 k486 m v470 v471 a472
def g85l0D : LoopD := { n := 30, low := [], sl := [2, 3, 4, 5, 8], bl := [1000000, 1000001, 1000002], tp := [(.vl (.sv (.ptr 1000000 0))), (.vl (.sv (.ptr 1000001 0))), (.vl (.sv (.ptr 1000002 0))), (.vl (.sv (.int .u64))), (.vl (.sv (.int .i64)))], bp := [(true, [(.seq (.int .u32) 6)]), (true, [(.seq (.int .u32) 6)]), (true, [(.seq (.int .u32) 6)])], xs := [(2, [2, 4])] }
def g85l0K {α : Type} (L : (List Int) → (List Int) → ((List Int) → Option α) → Int → Int → (List Int) → Option α) (ls : List Lf) (k : Ex → St → Option α) : Option α :=
  L ((lf ls 3).lst (.int .u32)) ((lf ls 4).lst (.int .u32))
    (fun y0 => k .normal (mkSt 30 [2, 4] [(.vl (.sv (.ptr 1000000 0))), (.vl (.sv (.ptr 1000001 0)))] [1000000, 1000001] [(true, [(.seq (.int .u32) 6 y0)]), (true, [(.seq (.int .u32) 6 ((lf ls 4).lst (.int .u32)))])]))
    (lf ls 0).int (lf ls 1).int ((lf ls 2).lst (.int .u32))
def g85b {α : Type}  (L_g85l0 : {α : Type} → (List Int) → (List Int) → ((List Int) → Option α) → Int → Int → (List Int) → Option α) (u468 : List Int) (u469 : List Int) (k489 : (List Int) → Option α) : Option α :=
  L_g85l0 u469 [0, 0, 0, 0, 0, 0]
    (fun l488 =>
      k489 l488)
    (0 : Int) (0 : Int) u468
def g85 {α : Type} (m : Nat) : (List Int) → (List Int) → ((List Int) → Option α) → Option α :=
  g85b (g85l0M m)
def g85tp : List TP := [(.vl (.agg [(.seq (.int .u32) 6)])), (.vl (.agg [(.seq (.int .u32) 6)]))]
def g85bp : List BP := []
def g85K {α : Type} (G : (List Int) → (List Int) → ((List Int) → Option α) → Option α) (ls : List Lf) (k : TV → List (List Seg) → List (List Seg) → Option α) : Option α :=
  G ((lf ls 0).lst (.int .u32)) ((lf ls 1).lst (.int .u32))
    (fun y0 => k (.vl (.agg [(.seq (.int .u32) 6 y0)])) [] [])
def g85hd  (L_g85l0 : {α : Type} → (List Int) → (List Int) → ((List Int) → Option α) → Int → Int → (List Int) → Option α) : Hd where
  call := fun f args Bs k => none
  loop := fun id st k => cond (Nat.beq id 0) (loopH g85l0D (g85l0K L_g85l0) st k) (none)
  ro := fun f => []
def g85h (m : Nat) : Hd := g85hd (g85l0M m)
theorem g85l0Step  (L_g85l0 : {α : Type} → (List Int) → (List Int) → ((List Int) → Option α) → Int → Int → (List Int) → Option α) {α : Type} (L : (List Int) → (List Int) → ((List Int) → Option α) → Int → Int → (List Int) → Option α) (ls : List Lf) (k : Ex → St → Option α) :
    g85l0K (fun a473 a474 k486 v470 v471 a472 => g85l0b a473 a474 k486 (L a473 a474 k486) v470 v471 a472) ls k = ev tab (g85hd L_g85l0) (bodyAt Go.Proofs.Try.f85 0) (atHead g85l0D ls) (loopK g85l0D 0 (loopH g85l0D (g85l0K L)) k) := by kernel_rfl
theorem g85Main  (L_g85l0 : {α : Type} → (List Int) → (List Int) → ((List Int) → Option α) → Int → Int → (List Int) → Option α) {α : Type} (ls : List Lf) (k : TV → List (List Seg) → List (List Seg) → Option α) :
    g85K (g85b L_g85l0) ls k = evFun tab (g85hd L_g85l0) Go.Proofs.Try.f85 (fillT g85tp ls).1 (fillB g85bp (fillT g85tp ls).2).1 k := by kernel_rfl
theorem g85Calls (m : Nat) : (g85h m).CallsOk Go.Proofs.Try.prog := cok_nil
theorem g85l0Ok (m : Nat) (α : Type) (st : St) (k : Ex → St → Option α) (r : α) (h : (g85h m).loop 0 st k = some r) :
    ∃ e st', k e st' = some r ∧ CodeS Go.Proofs.Try.prog (.block 0 (.loop (bodyAt Go.Proofs.Try.f85 0))) st e st' :=
  loop_ok (tab := tab) (h := g85h m) (F := fun n ls k => g85l0K (fun a473 a474 k486 v470 v471 a472 => g85l0 a473 a474 k486 n v470 v471 a472) ls k) tabOk (g85Calls m) mixed (loopsOk_of _ (fun p hp => by rw [show loopsOf (bodyAt Go.Proofs.Try.f85 0) = [] by kernel_rfl] at hp; cases hp))
    (fun _ _ => rfl) (fun n ls k => g85l0Step (g85l0M m) (fun a473 a474 k486 => g85l0 a473 a474 k486 n) ls k) (n := m) h
theorem g85Fn (m : Nat) : FnOk Go.Proofs.Try.prog 85 g85tp g85bp (fun {α} => g85K (g85 (α := α) m)) :=
  fn_ok (tab := tab) (h := g85h m) (fn := Go.Proofs.Try.f85) (F := fun {α} => g85K (g85 (α := α) m)) tabOk (g85Calls m) mixed (by kernel_rfl) (by kernel_rfl) (fun c hc => by
    rw [bodyOf_some hc]
    exact loopsOk_of _ (fun p hp => by
    rw [show loopsOf (bodyOf Go.Proofs.Try.f85) = [(0, bodyAt Go.Proofs.Try.f85 0)] by kernel_rfl] at hp
    simp only [List.mem_cons, List.not_mem_nil, or_false] at hp
    rcases hp with rfl
    exact g85l0Ok m))
    (fun α ls k => g85Main (g85l0M m) ls k)
theorem g85Ok (m : Nat) : RowOk Go.Proofs.Try.prog 85 (fun {α} => rowK g85tp g85bp (g85K (g85 (α := α) m))) := row_of (g85Fn m)

/-! ### g53: (*impl.calc).add -/
def g53b {α : Type} (G_g69 : {α : Type} → (List Int) → (List Int) → ((List Int) → Bool → Option α) → Option α) (G_g84 : {α : Type} → Bool → (List Int) → (Bool → Option α) → Option α) (G_g70 : {α : Type} → (List Int) → (List Int) → (Int → Option α) → Option α) (G_g85 : {α : Type} → (List Int) → (List Int) → ((List Int) → Option α) → Option α)  (q414 : Bool) (u415 : List Int) (q416 : Bool) (u417 : List Int) (q418 : Bool) (k494 : Bool → (List Int) → Bool → Option α) : Option α :=
  cond (q414 == q416)
   (
    G_g69 u415 u417
      (fun l444 b445 =>
        cond q418
         (
          G_g84 q414 l444
            (fun b446 =>
              k494 b446 l444 true))
         (
          G_g84 q414 l444
            (fun b447 =>
              k494 b447 l444 b445))))
   (
    G_g70 u415 u417
      (fun x466 =>
        cond (decide (x466 < (0 : Int)))
         (
          G_g85 u417 u415
            (fun l490 =>
              G_g84 q416 l490
                (fun b491 =>
                  k494 b491 l490 q418)))
         (
          G_g85 u415 u417
            (fun l492 =>
              G_g84 q414 l492
                (fun b493 =>
                  k494 b493 l492 q418)))))
def g53 {α : Type} (m : Nat) : Bool → (List Int) → Bool → (List Int) → Bool → (Bool → (List Int) → Bool → Option α) → Option α :=
  g53b (g69 m) (g84 m) (g70 m) (g85 m)
def g53tp : List TP := [(.vl (.sv (.ptr 0 0))), (.vl (.agg [(.one .bool), (.seq (.int .u32) 6)])), (.vl (.agg [(.one .bool), (.seq (.int .u32) 6)]))]
def g53bp : List BP := [(true, [(.one .bool)])]
def g53K {α : Type} (G : Bool → (List Int) → Bool → (List Int) → Bool → (Bool → (List Int) → Bool → Option α) → Option α) (ls : List Lf) (k : TV → List (List Seg) → List (List Seg) → Option α) : Option α :=
  G (lf ls 0).bool ((lf ls 1).lst (.int .u32)) (lf ls 2).bool ((lf ls 3).lst (.int .u32)) (lf ls 4).bool
    (fun y0 y1 y2 => k (.vl (.agg [(.one (.bool y0)), (.seq (.int .u32) 6 y1)])) [[(.one (.bool y2))]] [])
def g53hd (G_g69 : {α : Type} → (List Int) → (List Int) → ((List Int) → Bool → Option α) → Option α) (G_g84 : {α : Type} → Bool → (List Int) → (Bool → Option α) → Option α) (G_g70 : {α : Type} → (List Int) → (List Int) → (Int → Option α) → Option α) (G_g85 : {α : Type} → (List Int) → (List Int) → ((List Int) → Option α) → Option α)  : Hd where
  call := fun f args Bs k => cond (Nat.beq f 69) (rowK g69tp g69bp (g69K G_g69) args Bs k) (cond (Nat.beq f 84) (rowK g84tp g84bp (g84K G_g84) args Bs k) (cond (Nat.beq f 70) (rowK g70tp g70bp (g70K G_g70) args Bs k) (cond (Nat.beq f 85) (rowK g85tp g85bp (g85K G_g85) args Bs k) (none))))
  loop := fun id st k => none
  ro := fun f => []
def g53h (m : Nat) : Hd := g53hd (g69 m) (g84 m) (g70 m) (g85 m)
theorem g53Main (G_g69 : {α : Type} → (List Int) → (List Int) → ((List Int) → Bool → Option α) → Option α) (G_g84 : {α : Type} → Bool → (List Int) → (Bool → Option α) → Option α) (G_g70 : {α : Type} → (List Int) → (List Int) → (Int → Option α) → Option α) (G_g85 : {α : Type} → (List Int) → (List Int) → ((List Int) → Option α) → Option α)  {α : Type} (ls : List Lf) (k : TV → List (List Seg) → List (List Seg) → Option α) :
    g53K (g53b G_g69 G_g84 G_g70 G_g85) ls k = evFun tab (g53hd G_g69 G_g84 G_g70 G_g85) Go.Proofs.Try.f53 (fillT g53tp ls).1 (fillB g53bp (fillT g53tp ls).2).1 k := by kernel_rfl
theorem g53Calls (m : Nat) : (g53h m).CallsOk Go.Proofs.Try.prog := (cok_cons (g69Ok m) (cok_cons (g84Ok m) (cok_cons (g70Ok m) (cok_cons (g85Ok m) cok_nil))))
theorem g53Fn (m : Nat) : FnOk Go.Proofs.Try.prog 53 g53tp g53bp (fun {α} => g53K (g53 (α := α) m)) :=
  fn_ok (tab := tab) (h := g53h m) (fn := Go.Proofs.Try.f53) (F := fun {α} => g53K (g53 (α := α) m)) tabOk (g53Calls m) mixed (by kernel_rfl) (by kernel_rfl) (fun c hc => by
    rw [bodyOf_some hc]
    exact loopsOk_of _ (fun p hp => by rw [show loopsOf (bodyOf Go.Proofs.Try.f53) = [] by kernel_rfl] at hp; cases hp))
    (fun α ls k => g53Main (g69 m) (g84 m) (g70 m) (g85 m) ls k)
theorem g53Ok (m : Nat) : RowOk Go.Proofs.Try.prog 53 (fun {α} => rowK g53tp g53bp (g53K (g53 (α := α) m))) := row_of (g53Fn m)

/-! ### g56: (*impl.calc).told -/
def g56b {α : Type}   (q504 : Bool) (u505 : List Int) (q506 : Bool) (k507 : Bool → (List Int) → Int → Option α) : Option α :=
  cond q506
   (
    k507 false [0, 0, 0, 0, 0, 0] (3 : Int))
   (
    k507 q504 u505 (0 : Int))
def g56 {α : Type} (m : Nat) : Bool → (List Int) → Bool → (Bool → (List Int) → Int → Option α) → Option α :=
  g56b
def g56tp : List TP := [(.vl (.sv (.ptr 0 0))), (.vl (.agg [(.one .bool), (.seq (.int .u32) 6)]))]
def g56bp : List BP := [(false, [(.one .bool)])]
def g56K {α : Type} (G : Bool → (List Int) → Bool → (Bool → (List Int) → Int → Option α) → Option α) (ls : List Lf) (k : TV → List (List Seg) → List (List Seg) → Option α) : Option α :=
  G (lf ls 0).bool ((lf ls 1).lst (.int .u32)) (lf ls 2).bool
    (fun y0 y1 y2 => k (.tup [(.agg [(.one (.bool y0)), (.seq (.int .u32) 6 y1)]), (.sv (.int .i64 y2))]) [[(.one (.bool (lf ls 2).bool))]] [])
def g56hd   : Hd where
  call := fun f args Bs k => none
  loop := fun id st k => none
  ro := fun f => []
def g56h (m : Nat) : Hd := g56hd
theorem g56Main   {α : Type} (ls : List Lf) (k : TV → List (List Seg) → List (List Seg) → Option α) :
    g56K (g56b) ls k = evFun tab (g56hd) Go.Proofs.Try.f56 (fillT g56tp ls).1 (fillB g56bp (fillT g56tp ls).2).1 k := by kernel_rfl
theorem g56Calls (m : Nat) : (g56h m).CallsOk Go.Proofs.Try.prog := cok_nil
theorem g56Fn (m : Nat) : FnOk Go.Proofs.Try.prog 56 g56tp g56bp (fun {α} => g56K (g56 (α := α) m)) :=
  fn_ok (tab := tab) (h := g56h m) (fn := Go.Proofs.Try.f56) (F := fun {α} => g56K (g56 (α := α) m)) tabOk (g56Calls m) mixed (by kernel_rfl) (by kernel_rfl) (fun c hc => by
    rw [bodyOf_some hc]
    exact loopsOk_of _ (fun p hp => by rw [show loopsOf (bodyOf Go.Proofs.Try.f56) = [] by kernel_rfl] at hp; cases hp))
    (fun α ls k => g56Main ls k)
theorem g56Ok (m : Nat) : RowOk Go.Proofs.Try.prog 56 (fun {α} => rowK g56tp g56bp (g56K (g56 (α := α) m))) := row_of (g56Fn m)

/-! ### g21: impl.ValueOfDigits -/
def g21l0b {α : Type} (G_g55 : {α : Type} → Int → (Bool → (List Int) → Option α) → Option α) (G_g54 : {α : Type} → Bool → (List Int) → Bool → (List Int) → Bool → (Bool → (List Int) → Bool → Option α) → Option α) (G_g53 : {α : Type} → Bool → (List Int) → Bool → (List Int) → Bool → (Bool → (List Int) → Bool → Option α) → Option α)  (m299 : Nat) (m300 : Nat) (m301 : Nat) (v302 : Int) (m304 : Nat) (a305 : List Int) (c306 : Bool) (a307 : List Int) (k499 : Bool → Bool → (List Int) → Option α) (r500 : Int → Bool → Bool → (List Int) → Option α) (v303 : Int) (c308 : Bool) (c309 : Bool) (a310 : List Int) : Option α :=
  cond (decide (v303 < v302))
   (
    if 0 ≤ v303 ∧ v303 < (m300 : Nat) then
      if (m299 + v303.toNat) < m304 then
        G_g55 (2 : Int)
          (fun b332 l333 =>
            G_g54 b332 l333 c309 a310 c308
              (fun b408 l409 b410 =>
                G_g55 (IntKind.wrap .i64 (List.getD a305 (m299 + v303.toNat) 0))
                  (fun b412 l413 =>
                    G_g53 b408 l409 b412 l413 b410
                      (fun b495 l496 b497 =>
                        r500 (IntKind.wrap .i64 (v303 + (1 : Int))) b497 b495 l496))))
      else
        none
    else
      none)
   (
    k499 c308 c309 a310)
def g21l0 {α : Type} (G_g55 : {α : Type} → Int → (Bool → (List Int) → Option α) → Option α) (G_g54 : {α : Type} → Bool → (List Int) → Bool → (List Int) → Bool → (Bool → (List Int) → Bool → Option α) → Option α) (G_g53 : {α : Type} → Bool → (List Int) → Bool → (List Int) → Bool → (Bool → (List Int) → Bool → Option α) → Option α)  (m299 : Nat) (m300 : Nat) (m301 : Nat) (v302 : Int) (m304 : Nat) (a305 : List Int) (c306 : Bool) (a307 : List Int) (k499 : Bool → Bool → (List Int) → Option α) : Nat → Int → Bool → Bool → (List Int) → Option α
  | 0 => fun _ _ _ _ => none
  | m + 1 => fun v303 c308 c309 a310 => g21l0b G_g55 G_g54 G_g53 m299 m300 m301 v302 m304 a305 c306 a307 k499 (g21l0 G_g55 G_g54 G_g53 m299 m300 m301 v302 m304 a305 c306 a307 k499 m) v303 c308 c309 a310
def g21l0M {α : Type} (m : Nat) : Nat → Nat → Nat → Int → Nat → (List Int) → Bool → (List Int) → (Bool → Bool → (List Int) → Option α) → Int → Bool → Bool → (List Int) → Option α :=
  fun m299 m300 m301 v302 m304 a305 c306 a307 k499 v303 c308 c309 a310 => g21l0 (g55 m) (g54 m) (g53 m) m299 m300 m301 v302 m304 a305 c306 a307 k499 m v303 c308 c309 a310
def g21l0D : LoopD := { n := 42, low := [0], sl := [4, 6, 7, 24, 25, 26], bl := [0, 1000001, 1000002, 1000003], tp := [(.vl (.sv (.ptr 1000001 0))), (.vl (.sv (.ptr 1000002 0))), (.vl (.sv (.ptr 1000003 0))), (.vl (.sv (.slc 0 0 1))), (.vl (.sv (.int .i64))), (.vl (.sv (.int .i64)))], bp := [(false, [(.seqv (.int .i8))]), (true, [(.one .bool), (.seq (.int .u32) 6)]), (true, [(.one .bool)]), (true, [(.one .bool), (.seq (.int .u32) 6)])], xs := [(2, [4, 6, 7])] }
def g21l0K {α : Type} (L : Nat → Nat → Nat → Int → Nat → (List Int) → Bool → (List Int) → (Bool → Bool → (List Int) → Option α) → Int → Bool → Bool → (List Int) → Option α) (ls : List Lf) (k : Ex → St → Option α) : Option α :=
  L (lf ls 0).nat (lf ls 1).nat (lf ls 2).nat (lf ls 3).int (lf ls 5).nat ((lf ls 6).lst (.int .i8)) (lf ls 7).bool ((lf ls 8).lst (.int .u32))
    (fun y4 y5 y6 => k .normal (mkSt 42 [4, 6, 7] [(.vl (.sv (.ptr 1000001 0))), (.vl (.sv (.ptr 1000002 0))), (.vl (.sv (.ptr 1000003 0)))] [0, 1000001, 1000002, 1000003] [(false, [(.seq (.int .i8) (lf ls 5).nat ((lf ls 6).lst (.int .i8)))]), (true, [(.one (.bool (lf ls 7).bool)), (.seq (.int .u32) 6 ((lf ls 8).lst (.int .u32)))]), (true, [(.one (.bool y4))]), (true, [(.one (.bool y5)), (.seq (.int .u32) 6 y6)])]))
    (lf ls 4).int (lf ls 9).bool (lf ls 10).bool ((lf ls 11).lst (.int .u32))
def g21b {α : Type} (G_g49 : {α : Type} → Bool → (List Int) → (Bool → Option α) → Option α) (G_g50 : {α : Type} → Nat → Nat → Nat → Nat → (List Int) → (Bool → Option α) → Option α) (G_g55 : {α : Type} → Int → (Bool → (List Int) → Option α) → Option α) (G_g54 : {α : Type} → Bool → (List Int) → Bool → (List Int) → Bool → (Bool → (List Int) → Bool → Option α) → Option α) (G_g53 : {α : Type} → Bool → (List Int) → Bool → (List Int) → Bool → (Bool → (List Int) → Bool → Option α) → Option α) (G_g56 : {α : Type} → Bool → (List Int) → Bool → (Bool → (List Int) → Int → Option α) → Option α) (L_g21l0 : {α : Type} → Nat → Nat → Nat → Int → Nat → (List Int) → Bool → (List Int) → (Bool → Bool → (List Int) → Option α) → Int → Bool → Bool → (List Int) → Option α) (q246 : Bool) (u247 : List Int) (m248 : Nat) (m249 : Nat) (m250 : Nat) (m251 : Nat) (u252 : List Int) (k511 : Bool → (List Int) → Int → Option α) : Option α :=
  G_g49 q246 u247
    (fun b258 =>
      cond (!b258)
       (
        k511 false [0, 0, 0, 0, 0, 0] (1 : Int))
       (
        G_g50 m248 m249 m250 m251 u252
          (fun b297 =>
            cond b297
             (
              k511 false [0, 0, 0, 0, 0, 0] (1 : Int))
             (
              cond (decide (((m249 : Nat) : Int) > (64 : Int)))
               (
                k511 false [0, 0, 0, 0, 0, 0] (2 : Int))
               (
                L_g21l0 m248 m249 m250 ((m249 : Nat) : Int) m251 u252 false [0, 0, 0, 0, 0, 0]
                  (fun b501 b502 l503 =>
                    G_g56 b502 l503 b501
                      (fun b508 l509 x510 =>
                        k511 b508 l509 x510))
                  (0 : Int) false q246 u247)))))
def g21 {α : Type} (m : Nat) : Bool → (List Int) → Nat → Nat → Nat → Nat → (List Int) → (Bool → (List Int) → Int → Option α) → Option α :=
  g21b (g49 m) (g50 m) (g55 m) (g54 m) (g53 m) (g56 m) (g21l0M m)
def g21tp : List TP := [(.vl (.agg [(.one .bool), (.seq (.int .u32) 6)])), (.vl (.sv (.slc 0 0 1)))]
def g21bp : List BP := [(false, [(.seqv (.int .i8))])]
def g21K {α : Type} (G : Bool → (List Int) → Nat → Nat → Nat → Nat → (List Int) → (Bool → (List Int) → Int → Option α) → Option α) (ls : List Lf) (k : TV → List (List Seg) → List (List Seg) → Option α) : Option α :=
  G (lf ls 0).bool ((lf ls 1).lst (.int .u32)) (lf ls 2).nat (lf ls 3).nat (lf ls 4).nat (lf ls 5).nat ((lf ls 6).lst (.int .i8))
    (fun y0 y1 y2 => k (.tup [(.agg [(.one (.bool y0)), (.seq (.int .u32) 6 y1)]), (.sv (.int .i64 y2))]) [[(.seq (.int .i8) (lf ls 5).nat ((lf ls 6).lst (.int .i8)))]] [])
def g21hd (G_g49 : {α : Type} → Bool → (List Int) → (Bool → Option α) → Option α) (G_g50 : {α : Type} → Nat → Nat → Nat → Nat → (List Int) → (Bool → Option α) → Option α) (G_g55 : {α : Type} → Int → (Bool → (List Int) → Option α) → Option α) (G_g54 : {α : Type} → Bool → (List Int) → Bool → (List Int) → Bool → (Bool → (List Int) → Bool → Option α) → Option α) (G_g53 : {α : Type} → Bool → (List Int) → Bool → (List Int) → Bool → (Bool → (List Int) → Bool → Option α) → Option α) (G_g56 : {α : Type} → Bool → (List Int) → Bool → (Bool → (List Int) → Int → Option α) → Option α) (L_g21l0 : {α : Type} → Nat → Nat → Nat → Int → Nat → (List Int) → Bool → (List Int) → (Bool → Bool → (List Int) → Option α) → Int → Bool → Bool → (List Int) → Option α) : Hd where
  call := fun f args Bs k => cond (Nat.beq f 49) (rowK g49tp g49bp (g49K G_g49) args Bs k) (cond (Nat.beq f 50) (rowK g50tp g50bp (g50K G_g50) args Bs k) (cond (Nat.beq f 55) (rowK g55tp g55bp (g55K G_g55) args Bs k) (cond (Nat.beq f 54) (rowK g54tp g54bp (g54K G_g54) args Bs k) (cond (Nat.beq f 53) (rowK g53tp g53bp (g53K G_g53) args Bs k) (cond (Nat.beq f 56) (rowK g56tp g56bp (g56K G_g56) args Bs k) (none))))))
  loop := fun id st k => cond (Nat.beq id 0) (loopH g21l0D (g21l0K L_g21l0) st k) (none)
  ro := fun f => cond (Nat.beq f 50) [0] (cond (Nat.beq f 56) [0] ([]))
def g21h (m : Nat) : Hd := g21hd (g49 m) (g50 m) (g55 m) (g54 m) (g53 m) (g56 m) (g21l0M m)
theorem g21l0Step (G_g49 : {α : Type} → Bool → (List Int) → (Bool → Option α) → Option α) (G_g50 : {α : Type} → Nat → Nat → Nat → Nat → (List Int) → (Bool → Option α) → Option α) (G_g55 : {α : Type} → Int → (Bool → (List Int) → Option α) → Option α) (G_g54 : {α : Type} → Bool → (List Int) → Bool → (List Int) → Bool → (Bool → (List Int) → Bool → Option α) → Option α) (G_g53 : {α : Type} → Bool → (List Int) → Bool → (List Int) → Bool → (Bool → (List Int) → Bool → Option α) → Option α) (G_g56 : {α : Type} → Bool → (List Int) → Bool → (Bool → (List Int) → Int → Option α) → Option α) (L_g21l0 : {α : Type} → Nat → Nat → Nat → Int → Nat → (List Int) → Bool → (List Int) → (Bool → Bool → (List Int) → Option α) → Int → Bool → Bool → (List Int) → Option α) {α : Type} (L : Nat → Nat → Nat → Int → Nat → (List Int) → Bool → (List Int) → (Bool → Bool → (List Int) → Option α) → Int → Bool → Bool → (List Int) → Option α) (ls : List Lf) (k : Ex → St → Option α) :
    g21l0K (fun m299 m300 m301 v302 m304 a305 c306 a307 k499 v303 c308 c309 a310 => g21l0b G_g55 G_g54 G_g53 m299 m300 m301 v302 m304 a305 c306 a307 k499 (L m299 m300 m301 v302 m304 a305 c306 a307 k499) v303 c308 c309 a310) ls k = ev tab (g21hd G_g49 G_g50 G_g55 G_g54 G_g53 G_g56 L_g21l0) (bodyAt Go.Proofs.Try.f21 0) (atHead g21l0D ls) (loopK g21l0D 0 (loopH g21l0D (g21l0K L)) k) := by kernel_rfl
theorem g21Main (G_g49 : {α : Type} → Bool → (List Int) → (Bool → Option α) → Option α) (G_g50 : {α : Type} → Nat → Nat → Nat → Nat → (List Int) → (Bool → Option α) → Option α) (G_g55 : {α : Type} → Int → (Bool → (List Int) → Option α) → Option α) (G_g54 : {α : Type} → Bool → (List Int) → Bool → (List Int) → Bool → (Bool → (List Int) → Bool → Option α) → Option α) (G_g53 : {α : Type} → Bool → (List Int) → Bool → (List Int) → Bool → (Bool → (List Int) → Bool → Option α) → Option α) (G_g56 : {α : Type} → Bool → (List Int) → Bool → (Bool → (List Int) → Int → Option α) → Option α) (L_g21l0 : {α : Type} → Nat → Nat → Nat → Int → Nat → (List Int) → Bool → (List Int) → (Bool → Bool → (List Int) → Option α) → Int → Bool → Bool → (List Int) → Option α) {α : Type} (ls : List Lf) (k : TV → List (List Seg) → List (List Seg) → Option α) :
    g21K (g21b G_g49 G_g50 G_g55 G_g54 G_g53 G_g56 L_g21l0) ls k = evFun tab (g21hd G_g49 G_g50 G_g55 G_g54 G_g53 G_g56 L_g21l0) Go.Proofs.Try.f21 (fillT g21tp ls).1 (fillB g21bp (fillT g21tp ls).2).1 k := by kernel_rfl
theorem g21Calls (m : Nat) : (g21h m).CallsOk Go.Proofs.Try.prog := (cok_cons (g49Ok m) (cok_cons (g50Ok m) (cok_cons (g55Ok m) (cok_cons (g54Ok m) (cok_cons (g53Ok m) (cok_cons (g56Ok m) cok_nil))))))
theorem g21l0Ok (m : Nat) (α : Type) (st : St) (k : Ex → St → Option α) (r : α) (h : (g21h m).loop 0 st k = some r) :
    ∃ e st', k e st' = some r ∧ CodeS Go.Proofs.Try.prog (.block 0 (.loop (bodyAt Go.Proofs.Try.f21 0))) st e st' :=
  loop_ok (tab := tab) (h := g21h m) (F := fun n ls k => g21l0K (fun m299 m300 m301 v302 m304 a305 c306 a307 k499 v303 c308 c309 a310 => g21l0 (g55 m) (g54 m) (g53 m) m299 m300 m301 v302 m304 a305 c306 a307 k499 n v303 c308 c309 a310) ls k) tabOk (g21Calls m) mixed (loopsOk_of _ (fun p hp => by rw [show loopsOf (bodyAt Go.Proofs.Try.f21 0) = [] by kernel_rfl] at hp; cases hp))
    (fun _ _ => rfl) (fun n ls k => g21l0Step (g49 m) (g50 m) (g55 m) (g54 m) (g53 m) (g56 m) (g21l0M m) (fun m299 m300 m301 v302 m304 a305 c306 a307 k499 => g21l0 (g55 m) (g54 m) (g53 m) m299 m300 m301 v302 m304 a305 c306 a307 k499 n) ls k) (n := m) h
theorem g21Fn (m : Nat) : FnOk Go.Proofs.Try.prog 21 g21tp g21bp (fun {α} => g21K (g21 (α := α) m)) :=
  fn_ok (tab := tab) (h := g21h m) (fn := Go.Proofs.Try.f21) (F := fun {α} => g21K (g21 (α := α) m)) tabOk (g21Calls m) mixed (by kernel_rfl) (by kernel_rfl) (fun c hc => by
    rw [bodyOf_some hc]
    exact loopsOk_of _ (fun p hp => by
    rw [show loopsOf (bodyOf Go.Proofs.Try.f21) = [(0, bodyAt Go.Proofs.Try.f21 0)] by kernel_rfl] at hp
    simp only [List.mem_cons, List.not_mem_nil, or_false] at hp
    rcases hp with rfl
    exact g21l0Ok m))
    (fun α ls k => g21Main (g49 m) (g50 m) (g55 m) (g54 m) (g53 m) (g56 m) (g21l0M m) ls k)
theorem g21Ok (m : Nat) : RowOk Go.Proofs.Try.prog 21 (fun {α} => rowK g21tp g21bp (g21K (g21 (α := α) m))) := row_of (g21Fn m)

/-! ### g57: laws.eqUint32A6 -/
def g57l0b {α : Type}   (a523 : List Int) (a524 : List Int) (k530 : Option α) (k531 : Option α) (r532 : Int → Option α) (v522 : Int) : Option α :=
  cond (decide (v522 < (6 : Int)))
   (
    if 0 ≤ v522 ∧ v522 < (6 : Nat) then
      if v522.toNat < 6 then
        if 0 ≤ v522 ∧ v522 < (6 : Nat) then
          if v522.toNat < 6 then
            cond ((List.getD a523 v522.toNat 0) != (List.getD a524 v522.toNat 0))
             (
              k530)
             (
              r532 (IntKind.wrap .i64 (v522 + (1 : Int))))
          else
            none
        else
          none
      else
        none
    else
      none)
   (
    k531)
def g57l0 {α : Type}   (a523 : List Int) (a524 : List Int) (k530 : Option α) (k531 : Option α) : Nat → Int → Option α
  | 0 => fun _ => none
  | m + 1 => fun v522 => g57l0b a523 a524 k530 k531 (g57l0 a523 a524 k530 k531 m) v522
def g57l0M {α : Type} (m : Nat) : (List Int) → (List Int) → (Option α) → (Option α) → Int → Option α :=
  fun a523 a524 k530 k531 v522 => g57l0 a523 a524 k530 k531 m v522
def g57l0D : LoopD := { n := 17, low := [], sl := [2, 3, 5], bl := [1000000, 1000001], tp := [(.vl (.sv (.ptr 1000000 0))), (.vl (.sv (.ptr 1000001 0))), (.vl (.sv (.int .i64)))], bp := [(true, [(.seq (.int .u32) 6)]), (true, [(.seq (.int .u32) 6)])], xs := [(1, [4]), (2, [])] }
def g57l0K {α : Type} (L : (List Int) → (List Int) → (Option α) → (Option α) → Int → Option α) (ls : List Lf) (k : Ex → St → Option α) : Option α :=
  L ((lf ls 1).lst (.int .u32)) ((lf ls 2).lst (.int .u32))
    (k .ret (mkSt 17 [4] [(.vl (.sv (.bool false)))] [] []))
    (k .normal (mkSt 17 [] [] [] []))
    (lf ls 0).int
def g57b {α : Type}  (L_g57l0 : {α : Type} → (List Int) → (List Int) → (Option α) → (Option α) → Int → Option α) (u520 : List Int) (u521 : List Int) (k533 : Bool → Option α) : Option α :=
  L_g57l0 u520 u521
    (
      k533 false)
    (
      k533 true)
    (0 : Int)
def g57 {α : Type} (m : Nat) : (List Int) → (List Int) → (Bool → Option α) → Option α :=
  g57b (g57l0M m)
def g57tp : List TP := [(.vl (.agg [(.seq (.int .u32) 6)])), (.vl (.agg [(.seq (.int .u32) 6)]))]
def g57bp : List BP := []
def g57K {α : Type} (G : (List Int) → (List Int) → (Bool → Option α) → Option α) (ls : List Lf) (k : TV → List (List Seg) → List (List Seg) → Option α) : Option α :=
  G ((lf ls 0).lst (.int .u32)) ((lf ls 1).lst (.int .u32))
    (fun y0 => k (.vl (.sv (.bool y0))) [] [])
def g57hd  (L_g57l0 : {α : Type} → (List Int) → (List Int) → (Option α) → (Option α) → Int → Option α) : Hd where
  call := fun f args Bs k => none
  loop := fun id st k => cond (Nat.beq id 0) (loopH g57l0D (g57l0K L_g57l0) st k) (none)
  ro := fun f => []
def g57h (m : Nat) : Hd := g57hd (g57l0M m)
theorem g57l0Step  (L_g57l0 : {α : Type} → (List Int) → (List Int) → (Option α) → (Option α) → Int → Option α) {α : Type} (L : (List Int) → (List Int) → (Option α) → (Option α) → Int → Option α) (ls : List Lf) (k : Ex → St → Option α) :
    g57l0K (fun a523 a524 k530 k531 v522 => g57l0b a523 a524 k530 k531 (L a523 a524 k530 k531) v522) ls k = ev tab (g57hd L_g57l0) (bodyAt Go.Proofs.Try.f57 0) (atHead g57l0D ls) (loopK g57l0D 0 (loopH g57l0D (g57l0K L)) k) := by kernel_rfl
theorem g57Main  (L_g57l0 : {α : Type} → (List Int) → (List Int) → (Option α) → (Option α) → Int → Option α) {α : Type} (ls : List Lf) (k : TV → List (List Seg) → List (List Seg) → Option α) :
    g57K (g57b L_g57l0) ls k = evFun tab (g57hd L_g57l0) Go.Proofs.Try.f57 (fillT g57tp ls).1 (fillB g57bp (fillT g57tp ls).2).1 k := by kernel_rfl
theorem g57Calls (m : Nat) : (g57h m).CallsOk Go.Proofs.Try.prog := cok_nil
theorem g57l0Ok (m : Nat) (α : Type) (st : St) (k : Ex → St → Option α) (r : α) (h : (g57h m).loop 0 st k = some r) :
    ∃ e st', k e st' = some r ∧ CodeS Go.Proofs.Try.prog (.block 0 (.loop (bodyAt Go.Proofs.Try.f57 0))) st e st' :=
  loop_ok (tab := tab) (h := g57h m) (F := fun n ls k => g57l0K (fun a523 a524 k530 k531 v522 => g57l0 a523 a524 k530 k531 n v522) ls k) tabOk (g57Calls m) mixed (loopsOk_of _ (fun p hp => by rw [show loopsOf (bodyAt Go.Proofs.Try.f57 0) = [] by kernel_rfl] at hp; cases hp))
    (fun _ _ => rfl) (fun n ls k => g57l0Step (g57l0M m) (fun a523 a524 k530 k531 => g57l0 a523 a524 k530 k531 n) ls k) (n := m) h
theorem g57Fn (m : Nat) : FnOk Go.Proofs.Try.prog 57 g57tp g57bp (fun {α} => g57K (g57 (α := α) m)) :=
  fn_ok (tab := tab) (h := g57h m) (fn := Go.Proofs.Try.f57) (F := fun {α} => g57K (g57 (α := α) m)) tabOk (g57Calls m) mixed (by kernel_rfl) (by kernel_rfl) (fun c hc => by
    rw [bodyOf_some hc]
    exact loopsOk_of _ (fun p hp => by
    rw [show loopsOf (bodyOf Go.Proofs.Try.f57) = [(0, bodyAt Go.Proofs.Try.f57 0)] by kernel_rfl] at hp
    simp only [List.mem_cons, List.not_mem_nil, or_false] at hp
    rcases hp with rfl
    exact g57l0Ok m))
    (fun α ls k => g57Main (g57l0M m) ls k)
theorem g57Ok (m : Nat) : RowOk Go.Proofs.Try.prog 57 (fun {α} => rowK g57tp g57bp (g57K (g57 (α := α) m))) := row_of (g57Fn m)

/-! ### g22: laws.eqWide -/
def g22b {α : Type} (G_g57 : {α : Type} → (List Int) → (List Int) → (Bool → Option α) → Option α)  (q515 : Bool) (u516 : List Int) (q517 : Bool) (u518 : List Int) (k536 : Bool → Option α) : Option α :=
  cond (!(q515 == q517))
   (
    k536 false)
   (
    G_g57 u516 u518
      (fun b534 =>
        cond (!b534)
         (
          k536 false)
         (
          k536 true)))
def g22 {α : Type} (m : Nat) : Bool → (List Int) → Bool → (List Int) → (Bool → Option α) → Option α :=
  g22b (g57 m)
def g22tp : List TP := [(.vl (.agg [(.one .bool), (.seq (.int .u32) 6)])), (.vl (.agg [(.one .bool), (.seq (.int .u32) 6)]))]
def g22bp : List BP := []
def g22K {α : Type} (G : Bool → (List Int) → Bool → (List Int) → (Bool → Option α) → Option α) (ls : List Lf) (k : TV → List (List Seg) → List (List Seg) → Option α) : Option α :=
  G (lf ls 0).bool ((lf ls 1).lst (.int .u32)) (lf ls 2).bool ((lf ls 3).lst (.int .u32))
    (fun y0 => k (.vl (.sv (.bool y0))) [] [])
def g22hd (G_g57 : {α : Type} → (List Int) → (List Int) → (Bool → Option α) → Option α)  : Hd where
  call := fun f args Bs k => cond (Nat.beq f 57) (rowK g57tp g57bp (g57K G_g57) args Bs k) (none)
  loop := fun id st k => none
  ro := fun f => []
def g22h (m : Nat) : Hd := g22hd (g57 m)
theorem g22Main (G_g57 : {α : Type} → (List Int) → (List Int) → (Bool → Option α) → Option α)  {α : Type} (ls : List Lf) (k : TV → List (List Seg) → List (List Seg) → Option α) :
    g22K (g22b G_g57) ls k = evFun tab (g22hd G_g57) Go.Proofs.Try.f22 (fillT g22tp ls).1 (fillB g22bp (fillT g22tp ls).2).1 k := by kernel_rfl
theorem g22Calls (m : Nat) : (g22h m).CallsOk Go.Proofs.Try.prog := (cok_cons (g57Ok m) cok_nil)
theorem g22Fn (m : Nat) : FnOk Go.Proofs.Try.prog 22 g22tp g22bp (fun {α} => g22K (g22 (α := α) m)) :=
  fn_ok (tab := tab) (h := g22h m) (fn := Go.Proofs.Try.f22) (F := fun {α} => g22K (g22 (α := α) m)) tabOk (g22Calls m) mixed (by kernel_rfl) (by kernel_rfl) (fun c hc => by
    rw [bodyOf_some hc]
    exact loopsOk_of _ (fun p hp => by rw [show loopsOf (bodyOf Go.Proofs.Try.f22) = [] by kernel_rfl] at hp; cases hp))
    (fun α ls k => g22Main (g57 m) ls k)
theorem g22Ok (m : Nat) : RowOk Go.Proofs.Try.prog 22 (fun {α} => rowK g22tp g22bp (g22K (g22 (α := α) m))) := row_of (g22Fn m)

/-! ### g23: laws.eqInt8S -/
def g23l0b {α : Type}   (m552 : Nat) (m553 : Nat) (m554 : Nat) (m555 : Nat) (m556 : Nat) (m557 : Nat) (m559 : Nat) (a560 : List Int) (m561 : Nat) (a562 : List Int) (k568 : Option α) (k569 : Option α) (r570 : Int → Option α) (v558 : Int) : Option α :=
  cond (decide (v558 < ((m553 : Nat) : Int)))
   (
    if 0 ≤ v558 ∧ v558 < (m553 : Nat) then
      if (m552 + v558.toNat) < m559 then
        if 0 ≤ v558 ∧ v558 < (m556 : Nat) then
          if (m555 + v558.toNat) < m561 then
            cond ((List.getD a560 (m552 + v558.toNat) 0) != (List.getD a562 (m555 + v558.toNat) 0))
             (
              k568)
             (
              r570 (IntKind.wrap .i64 (v558 + (1 : Int))))
          else
            none
        else
          none
      else
        none
    else
      none)
   (
    k569)
def g23l0 {α : Type}   (m552 : Nat) (m553 : Nat) (m554 : Nat) (m555 : Nat) (m556 : Nat) (m557 : Nat) (m559 : Nat) (a560 : List Int) (m561 : Nat) (a562 : List Int) (k568 : Option α) (k569 : Option α) : Nat → Int → Option α
  | 0 => fun _ => none
  | m + 1 => fun v558 => g23l0b m552 m553 m554 m555 m556 m557 m559 a560 m561 a562 k568 k569 (g23l0 m552 m553 m554 m555 m556 m557 m559 a560 m561 a562 k568 k569 m) v558
def g23l0M {α : Type} (m : Nat) : Nat → Nat → Nat → Nat → Nat → Nat → Nat → (List Int) → Nat → (List Int) → (Option α) → (Option α) → Int → Option α :=
  fun m552 m553 m554 m555 m556 m557 m559 a560 m561 a562 k568 k569 v558 => g23l0 m552 m553 m554 m555 m556 m557 m559 a560 m561 a562 k568 k569 m v558
def g23l0D : LoopD := { n := 26, low := [0, 1], sl := [0, 1, 5], bl := [0, 1], tp := [(.vl (.sv (.slc 0 0 1))), (.vl (.sv (.slc 1 0 1))), (.vl (.sv (.int .i64)))], bp := [(false, [(.seqv (.int .i8))]), (false, [(.seqv (.int .i8))])], xs := [(1, [4]), (2, [])] }
def g23l0K {α : Type} (L : Nat → Nat → Nat → Nat → Nat → Nat → Nat → (List Int) → Nat → (List Int) → (Option α) → (Option α) → Int → Option α) (ls : List Lf) (k : Ex → St → Option α) : Option α :=
  L (lf ls 0).nat (lf ls 1).nat (lf ls 2).nat (lf ls 3).nat (lf ls 4).nat (lf ls 5).nat (lf ls 7).nat ((lf ls 8).lst (.int .i8)) (lf ls 9).nat ((lf ls 10).lst (.int .i8))
    (k .ret (mkSt 26 [4] [(.vl (.sv (.bool false)))] [0, 1] [(false, [(.seq (.int .i8) (lf ls 7).nat ((lf ls 8).lst (.int .i8)))]), (false, [(.seq (.int .i8) (lf ls 9).nat ((lf ls 10).lst (.int .i8)))])]))
    (k .normal (mkSt 26 [] [] [0, 1] [(false, [(.seq (.int .i8) (lf ls 7).nat ((lf ls 8).lst (.int .i8)))]), (false, [(.seq (.int .i8) (lf ls 9).nat ((lf ls 10).lst (.int .i8)))])]))
    (lf ls 6).int
def g23b {α : Type}  (L_g23l0 : {α : Type} → Nat → Nat → Nat → Nat → Nat → Nat → Nat → (List Int) → Nat → (List Int) → (Option α) → (Option α) → Int → Option α) (m541 : Nat) (m542 : Nat) (m543 : Nat) (m544 : Nat) (m545 : Nat) (m546 : Nat) (m547 : Nat) (u548 : List Int) (m549 : Nat) (u550 : List Int) (k571 : Bool → Option α) : Option α :=
  cond (((m542 : Nat) : Int) != ((m545 : Nat) : Int))
   (
    k571 false)
   (
    L_g23l0 m541 m542 m543 m544 m545 m546 m547 u548 m549 u550
      (
        k571 false)
      (
        k571 true)
      (0 : Int))
def g23 {α : Type} (m : Nat) : Nat → Nat → Nat → Nat → Nat → Nat → Nat → (List Int) → Nat → (List Int) → (Bool → Option α) → Option α :=
  g23b (g23l0M m)
def g23tp : List TP := [(.vl (.sv (.slc 0 0 1))), (.vl (.sv (.slc 1 0 1)))]
def g23bp : List BP := [(false, [(.seqv (.int .i8))]), (false, [(.seqv (.int .i8))])]
def g23K {α : Type} (G : Nat → Nat → Nat → Nat → Nat → Nat → Nat → (List Int) → Nat → (List Int) → (Bool → Option α) → Option α) (ls : List Lf) (k : TV → List (List Seg) → List (List Seg) → Option α) : Option α :=
  G (lf ls 0).nat (lf ls 1).nat (lf ls 2).nat (lf ls 3).nat (lf ls 4).nat (lf ls 5).nat (lf ls 6).nat ((lf ls 7).lst (.int .i8)) (lf ls 8).nat ((lf ls 9).lst (.int .i8))
    (fun y0 => k (.vl (.sv (.bool y0))) [[(.seq (.int .i8) (lf ls 6).nat ((lf ls 7).lst (.int .i8)))], [(.seq (.int .i8) (lf ls 8).nat ((lf ls 9).lst (.int .i8)))]] [])
def g23hd  (L_g23l0 : {α : Type} → Nat → Nat → Nat → Nat → Nat → Nat → Nat → (List Int) → Nat → (List Int) → (Option α) → (Option α) → Int → Option α) : Hd where
  call := fun f args Bs k => none
  loop := fun id st k => cond (Nat.beq id 0) (loopH g23l0D (g23l0K L_g23l0) st k) (none)
  ro := fun f => []
def g23h (m : Nat) : Hd := g23hd (g23l0M m)
theorem g23l0Step  (L_g23l0 : {α : Type} → Nat → Nat → Nat → Nat → Nat → Nat → Nat → (List Int) → Nat → (List Int) → (Option α) → (Option α) → Int → Option α) {α : Type} (L : Nat → Nat → Nat → Nat → Nat → Nat → Nat → (List Int) → Nat → (List Int) → (Option α) → (Option α) → Int → Option α) (ls : List Lf) (k : Ex → St → Option α) :
    g23l0K (fun m552 m553 m554 m555 m556 m557 m559 a560 m561 a562 k568 k569 v558 => g23l0b m552 m553 m554 m555 m556 m557 m559 a560 m561 a562 k568 k569 (L m552 m553 m554 m555 m556 m557 m559 a560 m561 a562 k568 k569) v558) ls k = ev tab (g23hd L_g23l0) (bodyAt Go.Proofs.Try.f23 0) (atHead g23l0D ls) (loopK g23l0D 0 (loopH g23l0D (g23l0K L)) k) := by kernel_rfl
theorem g23Main  (L_g23l0 : {α : Type} → Nat → Nat → Nat → Nat → Nat → Nat → Nat → (List Int) → Nat → (List Int) → (Option α) → (Option α) → Int → Option α) {α : Type} (ls : List Lf) (k : TV → List (List Seg) → List (List Seg) → Option α) :
    g23K (g23b L_g23l0) ls k = evFun tab (g23hd L_g23l0) Go.Proofs.Try.f23 (fillT g23tp ls).1 (fillB g23bp (fillT g23tp ls).2).1 k := by kernel_rfl
theorem g23Calls (m : Nat) : (g23h m).CallsOk Go.Proofs.Try.prog := cok_nil
theorem g23l0Ok (m : Nat) (α : Type) (st : St) (k : Ex → St → Option α) (r : α) (h : (g23h m).loop 0 st k = some r) :
    ∃ e st', k e st' = some r ∧ CodeS Go.Proofs.Try.prog (.block 0 (.loop (bodyAt Go.Proofs.Try.f23 0))) st e st' :=
  loop_ok (tab := tab) (h := g23h m) (F := fun n ls k => g23l0K (fun m552 m553 m554 m555 m556 m557 m559 a560 m561 a562 k568 k569 v558 => g23l0 m552 m553 m554 m555 m556 m557 m559 a560 m561 a562 k568 k569 n v558) ls k) tabOk (g23Calls m) mixed (loopsOk_of _ (fun p hp => by rw [show loopsOf (bodyAt Go.Proofs.Try.f23 0) = [] by kernel_rfl] at hp; cases hp))
    (fun _ _ => rfl) (fun n ls k => g23l0Step (g23l0M m) (fun m552 m553 m554 m555 m556 m557 m559 a560 m561 a562 k568 k569 => g23l0 m552 m553 m554 m555 m556 m557 m559 a560 m561 a562 k568 k569 n) ls k) (n := m) h
theorem g23Fn (m : Nat) : FnOk Go.Proofs.Try.prog 23 g23tp g23bp (fun {α} => g23K (g23 (α := α) m)) :=
  fn_ok (tab := tab) (h := g23h m) (fn := Go.Proofs.Try.f23) (F := fun {α} => g23K (g23 (α := α) m)) tabOk (g23Calls m) mixed (by kernel_rfl) (by kernel_rfl) (fun c hc => by
    rw [bodyOf_some hc]
    exact loopsOk_of _ (fun p hp => by
    rw [show loopsOf (bodyOf Go.Proofs.Try.f23) = [(0, bodyAt Go.Proofs.Try.f23 0)] by kernel_rfl] at hp
    simp only [List.mem_cons, List.not_mem_nil, or_false] at hp
    rcases hp with rfl
    exact g23l0Ok m))
    (fun α ls k => g23Main (g23l0M m) ls k)
theorem g23Ok (m : Nat) : RowOk Go.Proofs.Try.prog 23 (fun {α} => rowK g23tp g23bp (g23K (g23 (α := α) m))) := row_of (g23Fn m)

/-! ### g5: laws.FnExactValueOfDigits -/
def g5b {α : Type} (G_g19 : {α : Type} → Bool → (List Int) → ((List Int) → Option α) → Option α) (G_g20 : {α : Type} → Nat → Nat → Nat → Nat → (List Int) → ((List Int) → Option α) → Option α) (G_g18 : {α : Type} → Bool → (List Int) → Nat → Nat → Nat → Nat → (List Int) → (Bool → (List Int) → Int → Option α) → Option α) (G_g21 : {α : Type} → Bool → (List Int) → Nat → Nat → Nat → Nat → (List Int) → (Bool → (List Int) → Int → Option α) → Option α) (G_g22 : {α : Type} → Bool → (List Int) → Bool → (List Int) → (Bool → Option α) → Option α) (G_g23 : {α : Type} → Nat → Nat → Nat → Nat → Nat → Nat → Nat → (List Int) → Nat → (List Int) → (Bool → Option α) → Option α)  (q1 : Bool) (u2 : List Int) (m3 : Nat) (m4 : Nat) (m5 : Nat) (m6 : Nat) (u7 : List Int) (k574 : Bool → Option α) : Option α :=
  cond (decide (((m4 : Nat) : Int) > (1048576 : Int)))
   (
    k574 true)
   (
    G_g19 q1 u2
      (fun l26 =>
        G_g20 m3 m4 m5 m6 u7
          (fun l52 =>
            G_g18 q1 l26 0 m4 m4 m4 l52
              (fun b241 l242 x243 =>
                G_g20 m3 m4 m5 m6 u7
                  (fun l244 =>
                    G_g19 q1 u2
                      (fun l245 =>
                        G_g21 q1 l245 0 m4 m4 m4 l244
                          (fun b512 l513 x514 =>
                            G_g22 b512 l513 b241 l242
                              (fun b537 =>
                                cond (!b537)
                                 (
                                  k574 false)
                                 (
                                  cond (x514 != x243)
                                   (
                                    k574 false)
                                   (
                                    G_g20 m3 m4 m5 m6 u7
                                      (fun l540 =>
                                        G_g23 0 m4 m4 0 m4 m4 m4 l244 m4 l540
                                          (fun b572 =>
                                            cond (!b572)
                                             (
                                              k574 false)
                                             (
                                              k574 true)))))))))))))
def g5 {α : Type} (m : Nat) : Bool → (List Int) → Nat → Nat → Nat → Nat → (List Int) → (Bool → Option α) → Option α :=
  g5b (g19 m) (g20 m) (g18 m) (g21 m) (g22 m) (g23 m)
def g5tp : List TP := [(.vl (.agg [(.one .bool), (.seq (.int .u32) 6)])), (.vl (.sv (.sla 0 0 1)))]
def g5bp : List BP := [(false, [(.seqv (.int .i8))])]
def g5K {α : Type} (G : Bool → (List Int) → Nat → Nat → Nat → Nat → (List Int) → (Bool → Option α) → Option α) (ls : List Lf) (k : TV → List (List Seg) → List (List Seg) → Option α) : Option α :=
  G (lf ls 0).bool ((lf ls 1).lst (.int .u32)) (lf ls 2).nat (lf ls 3).nat (lf ls 4).nat (lf ls 5).nat ((lf ls 6).lst (.int .i8))
    (fun y0 => k (.vl (.sv (.bool y0))) [[(.seq (.int .i8) (lf ls 5).nat ((lf ls 6).lst (.int .i8)))]] [])
def g5hd (G_g19 : {α : Type} → Bool → (List Int) → ((List Int) → Option α) → Option α) (G_g20 : {α : Type} → Nat → Nat → Nat → Nat → (List Int) → ((List Int) → Option α) → Option α) (G_g18 : {α : Type} → Bool → (List Int) → Nat → Nat → Nat → Nat → (List Int) → (Bool → (List Int) → Int → Option α) → Option α) (G_g21 : {α : Type} → Bool → (List Int) → Nat → Nat → Nat → Nat → (List Int) → (Bool → (List Int) → Int → Option α) → Option α) (G_g22 : {α : Type} → Bool → (List Int) → Bool → (List Int) → (Bool → Option α) → Option α) (G_g23 : {α : Type} → Nat → Nat → Nat → Nat → Nat → Nat → Nat → (List Int) → Nat → (List Int) → (Bool → Option α) → Option α)  : Hd where
  call := fun f args Bs k => cond (Nat.beq f 19) (rowK g19tp g19bp (g19K G_g19) args Bs k) (cond (Nat.beq f 20) (rowK g20tp g20bp (g20K G_g20) args Bs k) (cond (Nat.beq f 18) (rowK g18tp g18bp (g18K G_g18) args Bs k) (cond (Nat.beq f 21) (rowK g21tp g21bp (g21K G_g21) args Bs k) (cond (Nat.beq f 22) (rowK g22tp g22bp (g22K G_g22) args Bs k) (cond (Nat.beq f 23) (rowK g23tp g23bp (g23K G_g23) args Bs k) (none))))))
  loop := fun id st k => none
  ro := fun f => cond (Nat.beq f 18) [0] (cond (Nat.beq f 20) [0] (cond (Nat.beq f 21) [0] (cond (Nat.beq f 23) [0, 1] ([]))))
def g5h (m : Nat) : Hd := g5hd (g19 m) (g20 m) (g18 m) (g21 m) (g22 m) (g23 m)
theorem g5Main (G_g19 : {α : Type} → Bool → (List Int) → ((List Int) → Option α) → Option α) (G_g20 : {α : Type} → Nat → Nat → Nat → Nat → (List Int) → ((List Int) → Option α) → Option α) (G_g18 : {α : Type} → Bool → (List Int) → Nat → Nat → Nat → Nat → (List Int) → (Bool → (List Int) → Int → Option α) → Option α) (G_g21 : {α : Type} → Bool → (List Int) → Nat → Nat → Nat → Nat → (List Int) → (Bool → (List Int) → Int → Option α) → Option α) (G_g22 : {α : Type} → Bool → (List Int) → Bool → (List Int) → (Bool → Option α) → Option α) (G_g23 : {α : Type} → Nat → Nat → Nat → Nat → Nat → Nat → Nat → (List Int) → Nat → (List Int) → (Bool → Option α) → Option α)  {α : Type} (ls : List Lf) (k : TV → List (List Seg) → List (List Seg) → Option α) :
    g5K (g5b G_g19 G_g20 G_g18 G_g21 G_g22 G_g23) ls k = evFun tab (g5hd G_g19 G_g20 G_g18 G_g21 G_g22 G_g23) Go.Proofs.Try.f5 (fillT g5tp ls).1 (fillB g5bp (fillT g5tp ls).2).1 k := by kernel_rfl
theorem g5Calls (m : Nat) : (g5h m).CallsOk Go.Proofs.Try.prog := (cok_cons (g19Ok m) (cok_cons (g20Ok m) (cok_cons (g18Ok m) (cok_cons (g21Ok m) (cok_cons (g22Ok m) (cok_cons (g23Ok m) cok_nil))))))
theorem g5Fn (m : Nat) : FnOk Go.Proofs.Try.prog 5 g5tp g5bp (fun {α} => g5K (g5 (α := α) m)) :=
  fn_ok (tab := tab) (h := g5h m) (fn := Go.Proofs.Try.f5) (F := fun {α} => g5K (g5 (α := α) m)) tabOk (g5Calls m) mixed (by kernel_rfl) (by kernel_rfl) (fun c hc => by
    rw [bodyOf_some hc]
    exact loopsOk_of _ (fun p hp => by rw [show loopsOf (bodyOf Go.Proofs.Try.f5) = [] by kernel_rfl] at hp; cases hp))
    (fun α ls k => g5Main (g19 m) (g20 m) (g18 m) (g21 m) (g22 m) (g23 m) ls k)
theorem g5Ok (m : Nat) : RowOk Go.Proofs.Try.prog 5 (fun {α} => rowK g5tp g5bp (g5K (g5 (α := α) m))) := row_of (g5Fn m)

/-! ### g81: spec.l00In -/
def g81b {α : Type}   (p594 : Int) (p595 : Int) (p596 : Int) (k599 : Bool → Option α) : Option α :=
  cond (decide (p594 ≥ p595))
   (
    k599 (decide (p594 ≤ p596)))
   (
    k599 false)
def g81 {α : Type} (m : Nat) : Int → Int → Int → (Bool → Option α) → Option α :=
  g81b
def g81tp : List TP := [(.vl (.sv (.int .i64))), (.vl (.sv (.int .i64))), (.vl (.sv (.int .i64)))]
def g81bp : List BP := []
def g81K {α : Type} (G : Int → Int → Int → (Bool → Option α) → Option α) (ls : List Lf) (k : TV → List (List Seg) → List (List Seg) → Option α) : Option α :=
  G (lf ls 0).int (lf ls 1).int (lf ls 2).int
    (fun y0 => k (.vl (.sv (.bool y0))) [] [])
def g81hd   : Hd where
  call := fun f args Bs k => none
  loop := fun id st k => none
  ro := fun f => []
def g81h (m : Nat) : Hd := g81hd
theorem g81Main   {α : Type} (ls : List Lf) (k : TV → List (List Seg) → List (List Seg) → Option α) :
    g81K (g81b) ls k = evFun tab (g81hd) Go.Proofs.Try.f81 (fillT g81tp ls).1 (fillB g81bp (fillT g81tp ls).2).1 k := by kernel_rfl
theorem g81Calls (m : Nat) : (g81h m).CallsOk Go.Proofs.Try.prog := cok_nil
theorem g81Fn (m : Nat) : FnOk Go.Proofs.Try.prog 81 g81tp g81bp (fun {α} => g81K (g81 (α := α) m)) :=
  fn_ok (tab := tab) (h := g81h m) (fn := Go.Proofs.Try.f81) (F := fun {α} => g81K (g81 (α := α) m)) tabOk (g81Calls m) mixed (by kernel_rfl) (by kernel_rfl) (fun c hc => by
    rw [bodyOf_some hc]
    exact loopsOk_of _ (fun p hp => by rw [show loopsOf (bodyOf Go.Proofs.Try.f81) = [] by kernel_rfl] at hp; cases hp))
    (fun α ls k => g81Main ls k)
theorem g81Ok (m : Nat) : RowOk Go.Proofs.Try.prog 81 (fun {α} => rowK g81tp g81bp (g81K (g81 (α := α) m))) := row_of (g81Fn m)

/-! ### g58: spec.l02Places -/
def g58b {α : Type} (G_g81 : {α : Type} → Int → Int → Int → (Bool → Option α) → Option α)  (p593 : Int) (k601 : Bool → Option α) : Option α :=
  G_g81 p593 (0 : Int) (64 : Int)
    (fun b600 =>
      k601 b600)
def g58 {α : Type} (m : Nat) : Int → (Bool → Option α) → Option α :=
  g58b (g81 m)
def g58tp : List TP := [(.vl (.sv (.int .i64)))]
def g58bp : List BP := []
def g58K {α : Type} (G : Int → (Bool → Option α) → Option α) (ls : List Lf) (k : TV → List (List Seg) → List (List Seg) → Option α) : Option α :=
  G (lf ls 0).int
    (fun y0 => k (.vl (.sv (.bool y0))) [] [])
def g58hd (G_g81 : {α : Type} → Int → Int → Int → (Bool → Option α) → Option α)  : Hd where
  call := fun f args Bs k => cond (Nat.beq f 81) (rowK g81tp g81bp (g81K G_g81) args Bs k) (none)
  loop := fun id st k => none
  ro := fun f => []
def g58h (m : Nat) : Hd := g58hd (g81 m)
theorem g58Main (G_g81 : {α : Type} → Int → Int → Int → (Bool → Option α) → Option α)  {α : Type} (ls : List Lf) (k : TV → List (List Seg) → List (List Seg) → Option α) :
    g58K (g58b G_g81) ls k = evFun tab (g58hd G_g81) Go.Proofs.Try.f58 (fillT g58tp ls).1 (fillB g58bp (fillT g58tp ls).2).1 k := by kernel_rfl
theorem g58Calls (m : Nat) : (g58h m).CallsOk Go.Proofs.Try.prog := (cok_cons (g81Ok m) cok_nil)
theorem g58Fn (m : Nat) : FnOk Go.Proofs.Try.prog 58 g58tp g58bp (fun {α} => g58K (g58 (α := α) m)) :=
  fn_ok (tab := tab) (h := g58h m) (fn := Go.Proofs.Try.f58) (F := fun {α} => g58K (g58 (α := α) m)) tabOk (g58Calls m) mixed (by kernel_rfl) (by kernel_rfl) (fun c hc => by
    rw [bodyOf_some hc]
    exact loopsOk_of _ (fun p hp => by rw [show loopsOf (bodyOf Go.Proofs.Try.f58) = [] by kernel_rfl] at hp; cases hp))
    (fun α ls k => g58Main (g81 m) ls k)
theorem g58Ok (m : Nat) : RowOk Go.Proofs.Try.prog 58 (fun {α} => rowK g58tp g58bp (g58K (g58 (α := α) m))) := row_of (g58Fn m)

/-! ### g101: spec.l01Bits -/
def g101l2b {α : Type}   (v619 : Int) (a622 : List Int) (k626 : Int → Option α) (r627 : Int → Int → Option α) (v620 : Int) (v621 : Int) : Option α :=
  cond (decide (v621 > (0 : Int)))
   (
    r627 (IntKind.wrap .i64 (v620 + (1 : Int))) (Int.fdiv v621 (2 ^ 1)))
   (
    k626 v620)
def g101l2 {α : Type}   (v619 : Int) (a622 : List Int) (k626 : Int → Option α) : Nat → Int → Int → Option α
  | 0 => fun _ _ => none
  | m + 1 => fun v620 v621 => g101l2b v619 a622 k626 (g101l2 v619 a622 k626 m) v620 v621
def g101l2M {α : Type} (m : Nat) : Int → (List Int) → (Int → Option α) → Int → Int → Option α :=
  fun v619 a622 k626 v620 v621 => g101l2 v619 a622 k626 m v620 v621
def g101l2D : LoopD := { n := 31, low := [0], sl := [3, 4, 5], bl := [0], tp := [(.vl (.sv (.int .i64))), (.vl (.sv (.int .i64))), (.vl (.sv (.int .u32)))], bp := [(false, [(.seq (.int .u32) 6)])], xs := [(4, [3, 4])] }
def g101l2K {α : Type} (L : Int → (List Int) → (Int → Option α) → Int → Int → Option α) (ls : List Lf) (k : Ex → St → Option α) : Option α :=
  L (lf ls 0).int ((lf ls 3).lst (.int .u32))
    (fun y1 => k .normal (mkSt 31 [3, 4] [(.vl (.sv (.int .i64 (lf ls 0).int))), (.vl (.sv (.int .i64 y1)))] [0] [(false, [(.seq (.int .u32) 6 ((lf ls 3).lst (.int .u32)))])]))
    (lf ls 1).int (lf ls 2).int
def g101l0b {α : Type}  (L_g101l2 : {α : Type} → Int → (List Int) → (Int → Option α) → Int → Int → Option α) (a613 : List Int) (k631 : Int → Option α) (k632 : Option α) (r633 : Int → Option α) (v612 : Int) : Option α :=
  cond (decide (v612 ≥ (0 : Int)))
   (
    if 0 ≤ v612 ∧ v612 < (6 : Nat) then
      if v612.toNat < 6 then
        cond ((List.getD a613 v612.toNat 0) == (0 : Int))
         (
          r633 (IntKind.wrap .i64 (v612 - (1 : Int))))
         (
          if 0 ≤ v612 ∧ v612 < (6 : Nat) then
            if v612.toNat < 6 then
              L_g101l2 v612 a613
                (fun x628 =>
                  k631 (IntKind.wrap .i64 ((IntKind.wrap .i64 ((32 : Int) * v612)) + x628)))
                (0 : Int) (List.getD a613 v612.toNat 0)
            else
              none
          else
            none)
      else
        none
    else
      none)
   (
    k632)
def g101l0 {α : Type}  (L_g101l2 : {α : Type} → Int → (List Int) → (Int → Option α) → Int → Int → Option α) (a613 : List Int) (k631 : Int → Option α) (k632 : Option α) : Nat → Int → Option α
  | 0 => fun _ => none
  | m + 1 => fun v612 => g101l0b L_g101l2 a613 k631 k632 (g101l0 L_g101l2 a613 k631 k632 m) v612
def g101l0M {α : Type} (m : Nat) : (List Int) → (Int → Option α) → (Option α) → Int → Option α :=
  fun a613 k631 k632 v612 => g101l0 (g101l2M m) a613 k631 k632 m v612
def g101l0D : LoopD := { n := 31, low := [0], sl := [0, 3], bl := [0], tp := [(.vl (.sv (.ptr 0 0))), (.vl (.sv (.int .i64)))], bp := [(false, [(.seq (.int .u32) 6)])], xs := [(1, [2]), (2, [])] }
def g101l0K {α : Type} (L : (List Int) → (Int → Option α) → (Option α) → Int → Option α) (ls : List Lf) (k : Ex → St → Option α) : Option α :=
  L ((lf ls 1).lst (.int .u32))
    (fun y0 => k .ret (mkSt 31 [2] [(.vl (.sv (.int .i64 y0)))] [0] [(false, [(.seq (.int .u32) 6 ((lf ls 1).lst (.int .u32)))])]))
    (k .normal (mkSt 31 [] [] [0] [(false, [(.seq (.int .u32) 6 ((lf ls 1).lst (.int .u32)))])]))
    (lf ls 0).int
def g101b {α : Type}  (L_g101l2 : {α : Type} → Int → (List Int) → (Int → Option α) → Int → Int → Option α) (L_g101l0 : {α : Type} → (List Int) → (Int → Option α) → (Option α) → Int → Option α) (u611 : List Int) (k635 : Int → Option α) : Option α :=
  L_g101l0 u611
    (fun x634 =>
      k635 x634)
    (
      k635 (0 : Int))
    (5 : Int)
def g101 {α : Type} (m : Nat) : (List Int) → (Int → Option α) → Option α :=
  g101b (g101l2M m) (g101l0M m)
def g101tp : List TP := [(.vl (.sv (.ptr 0 0)))]
def g101bp : List BP := [(false, [(.seq (.int .u32) 6)])]
def g101K {α : Type} (G : (List Int) → (Int → Option α) → Option α) (ls : List Lf) (k : TV → List (List Seg) → List (List Seg) → Option α) : Option α :=
  G ((lf ls 0).lst (.int .u32))
    (fun y0 => k (.vl (.sv (.int .i64 y0))) [[(.seq (.int .u32) 6 ((lf ls 0).lst (.int .u32)))]] [])
def g101hd  (L_g101l2 : {α : Type} → Int → (List Int) → (Int → Option α) → Int → Int → Option α) (L_g101l0 : {α : Type} → (List Int) → (Int → Option α) → (Option α) → Int → Option α) : Hd where
  call := fun f args Bs k => none
  loop := fun id st k => cond (Nat.beq id 2) (loopH g101l2D (g101l2K L_g101l2) st k) (cond (Nat.beq id 0) (loopH g101l0D (g101l0K L_g101l0) st k) (none))
  ro := fun f => []
def g101h (m : Nat) : Hd := g101hd (g101l2M m) (g101l0M m)
theorem g101l2Step  (L_g101l2 : {α : Type} → Int → (List Int) → (Int → Option α) → Int → Int → Option α) (L_g101l0 : {α : Type} → (List Int) → (Int → Option α) → (Option α) → Int → Option α) {α : Type} (L : Int → (List Int) → (Int → Option α) → Int → Int → Option α) (ls : List Lf) (k : Ex → St → Option α) :
    g101l2K (fun v619 a622 k626 v620 v621 => g101l2b v619 a622 k626 (L v619 a622 k626) v620 v621) ls k = ev tab (g101hd L_g101l2 L_g101l0) (bodyAt Go.Proofs.Try.f101 2) (atHead g101l2D ls) (loopK g101l2D 2 (loopH g101l2D (g101l2K L)) k) := by kernel_rfl
theorem g101l0Step  (L_g101l2 : {α : Type} → Int → (List Int) → (Int → Option α) → Int → Int → Option α) (L_g101l0 : {α : Type} → (List Int) → (Int → Option α) → (Option α) → Int → Option α) {α : Type} (L : (List Int) → (Int → Option α) → (Option α) → Int → Option α) (ls : List Lf) (k : Ex → St → Option α) :
    g101l0K (fun a613 k631 k632 v612 => g101l0b L_g101l2 a613 k631 k632 (L a613 k631 k632) v612) ls k = ev tab (g101hd L_g101l2 L_g101l0) (bodyAt Go.Proofs.Try.f101 0) (atHead g101l0D ls) (loopK g101l0D 0 (loopH g101l0D (g101l0K L)) k) := by kernel_rfl
theorem g101Main  (L_g101l2 : {α : Type} → Int → (List Int) → (Int → Option α) → Int → Int → Option α) (L_g101l0 : {α : Type} → (List Int) → (Int → Option α) → (Option α) → Int → Option α) {α : Type} (ls : List Lf) (k : TV → List (List Seg) → List (List Seg) → Option α) :
    g101K (g101b L_g101l2 L_g101l0) ls k = evFun tab (g101hd L_g101l2 L_g101l0) Go.Proofs.Try.f101 (fillT g101tp ls).1 (fillB g101bp (fillT g101tp ls).2).1 k := by kernel_rfl
theorem g101Calls (m : Nat) : (g101h m).CallsOk Go.Proofs.Try.prog := cok_nil
theorem g101l2Ok (m : Nat) (α : Type) (st : St) (k : Ex → St → Option α) (r : α) (h : (g101h m).loop 2 st k = some r) :
    ∃ e st', k e st' = some r ∧ CodeS Go.Proofs.Try.prog (.block 2 (.loop (bodyAt Go.Proofs.Try.f101 2))) st e st' :=
  loop_ok (tab := tab) (h := g101h m) (F := fun n ls k => g101l2K (fun v619 a622 k626 v620 v621 => g101l2 v619 a622 k626 n v620 v621) ls k) tabOk (g101Calls m) mixed (loopsOk_of _ (fun p hp => by rw [show loopsOf (bodyAt Go.Proofs.Try.f101 2) = [] by kernel_rfl] at hp; cases hp))
    (fun _ _ => rfl) (fun n ls k => g101l2Step (g101l2M m) (g101l0M m) (fun v619 a622 k626 => g101l2 v619 a622 k626 n) ls k) (n := m) h
theorem g101l0Ok (m : Nat) (α : Type) (st : St) (k : Ex → St → Option α) (r : α) (h : (g101h m).loop 0 st k = some r) :
    ∃ e st', k e st' = some r ∧ CodeS Go.Proofs.Try.prog (.block 0 (.loop (bodyAt Go.Proofs.Try.f101 0))) st e st' :=
  loop_ok (tab := tab) (h := g101h m) (F := fun n ls k => g101l0K (fun a613 k631 k632 v612 => g101l0 (g101l2M m) a613 k631 k632 n v612) ls k) tabOk (g101Calls m) mixed (loopsOk_of _ (fun p hp => by
    rw [show loopsOf (bodyAt Go.Proofs.Try.f101 0) = [(2, bodyAt Go.Proofs.Try.f101 2)] by kernel_rfl] at hp
    simp only [List.mem_cons, List.not_mem_nil, or_false] at hp
    rcases hp with rfl
    exact g101l2Ok m))
    (fun _ _ => rfl) (fun n ls k => g101l0Step (g101l2M m) (g101l0M m) (fun a613 k631 k632 => g101l0 (g101l2M m) a613 k631 k632 n) ls k) (n := m) h
theorem g101Fn (m : Nat) : FnOk Go.Proofs.Try.prog 101 g101tp g101bp (fun {α} => g101K (g101 (α := α) m)) :=
  fn_ok (tab := tab) (h := g101h m) (fn := Go.Proofs.Try.f101) (F := fun {α} => g101K (g101 (α := α) m)) tabOk (g101Calls m) mixed (by kernel_rfl) (by kernel_rfl) (fun c hc => by
    rw [bodyOf_some hc]
    exact loopsOk_of _ (fun p hp => by
    rw [show loopsOf (bodyOf Go.Proofs.Try.f101) = [(0, bodyAt Go.Proofs.Try.f101 0)] by kernel_rfl] at hp
    simp only [List.mem_cons, List.not_mem_nil, or_false] at hp
    rcases hp with rfl
    exact g101l0Ok m))
    (fun α ls k => g101Main (g101l2M m) (g101l0M m) ls k)
theorem g101Ok (m : Nat) : RowOk Go.Proofs.Try.prog 101 (fun {α} => rowK g101tp g101bp (g101K (g101 (α := α) m))) := row_of (g101Fn m)

/-! ### g87: spec.l01UpMag -/
def g87l0b {α : Type}   (v641 : Int) (a643 : List Int) (a644 : List Int) (k669 : (List Int) → Option α) (r670 : Int → (List Int) → Option α) (v642 : Int) (a645 : List Int) : Option α :=
  cond (decide (v642 < (6 : Int)))
   (
    let x648 : Int := IntKind.wrap .i64 (v642 + (IntKind.wrap .i64 (Int.tdiv v641 (32 : Int))))
    cond (decide (x648 ≥ (6 : Int)))
     (
      k669 a645)
     (
      if 0 ≤ v642 ∧ v642 < (6 : Nat) then
        if v642.toNat < 6 then
          let x653 : Int := IntKind.wrap .u64 (Int.tmod v641 (32 : Int))
          if x653 < 0 then
            none
          else
            let x654 : Int := IntKind.wrap .u64 ((IntKind.wrap .u64 (List.getD a643 v642.toNat 0)) * 2 ^ (min x653.toNat 64))
            if 0 ≤ x648 ∧ x648 < (6 : Nat) then
              if x648.toNat < 6 then
                if 0 ≤ x648 ∧ x648 < (6 : Nat) then
                  if x648.toNat < 6 then
                    let l658 : List Int := List.set a645 (x648.toNat) (ibits .or .u32 (List.getD a645 x648.toNat 0) (IntKind.wrap .u32 x654))
                    cond (decide ((IntKind.wrap .i64 (x648 + (1 : Int))) < (6 : Int)))
                     (
                      let x661 : Int := IntKind.wrap .i64 (x648 + (1 : Int))
                      if 0 ≤ x661 ∧ x661 < (6 : Nat) then
                        if x661.toNat < 6 then
                          if 0 ≤ x661 ∧ x661 < (6 : Nat) then
                            if x661.toNat < 6 then
                              r670 (IntKind.wrap .i64 (v642 + (1 : Int))) (List.set l658 (x661.toNat) (ibits .or .u32 (List.getD l658 x661.toNat 0) (IntKind.wrap .u32 (Int.fdiv x654 (2 ^ 32)))))
                            else
                              none
                          else
                            none
                        else
                          none
                      else
                        none)
                     (
                      r670 (IntKind.wrap .i64 (v642 + (1 : Int))) l658)
                  else
                    none
                else
                  none
              else
                none
            else
              none
        else
          none
      else
        none))
   (
    k669 a645)
def g87l0 {α : Type}   (v641 : Int) (a643 : List Int) (a644 : List Int) (k669 : (List Int) → Option α) : Nat → Int → (List Int) → Option α
  | 0 => fun _ _ => none
  | m + 1 => fun v642 a645 => g87l0b v641 a643 a644 k669 (g87l0 v641 a643 a644 k669 m) v642 a645
def g87l0M {α : Type} (m : Nat) : Int → (List Int) → (List Int) → ((List Int) → Option α) → Int → (List Int) → Option α :=
  fun v641 a643 a644 k669 v642 a645 => g87l0 v641 a643 a644 k669 m v642 a645
def g87l0D : LoopD := { n := 62, low := [0], sl := [0, 1, 4, 6, 7], bl := [0, 1000001, 1000002], tp := [(.vl (.sv (.ptr 0 0))), (.vl (.sv (.int .i64))), (.vl (.sv (.ptr 1000001 0))), (.vl (.sv (.ptr 1000002 0))), (.vl (.sv (.int .i64)))], bp := [(false, [(.seq (.int .u32) 6)]), (true, [(.seq (.int .u32) 6)]), (true, [(.seq (.int .u32) 6)])], xs := [(2, [4, 6])] }
def g87l0K {α : Type} (L : Int → (List Int) → (List Int) → ((List Int) → Option α) → Int → (List Int) → Option α) (ls : List Lf) (k : Ex → St → Option α) : Option α :=
  L (lf ls 0).int ((lf ls 2).lst (.int .u32)) ((lf ls 3).lst (.int .u32))
    (fun y2 => k .normal (mkSt 62 [4, 6] [(.vl (.sv (.ptr 1000001 0))), (.vl (.sv (.ptr 1000002 0)))] [0, 1000001, 1000002] [(false, [(.seq (.int .u32) 6 ((lf ls 2).lst (.int .u32)))]), (true, [(.seq (.int .u32) 6 ((lf ls 3).lst (.int .u32)))]), (true, [(.seq (.int .u32) 6 y2)])]))
    (lf ls 1).int ((lf ls 4).lst (.int .u32))
def g87b {α : Type} (G_g101 : {α : Type} → (List Int) → (Int → Option α) → Option α) (G_g102 : {α : Type} → (List Int) → (Bool → Option α) → Option α) (L_g87l0 : {α : Type} → Int → (List Int) → (List Int) → ((List Int) → Option α) → Int → (List Int) → Option α) (p609 : Int) (u610 : List Int) (k673 : (List Int) → Bool → Option α) : Option α :=
  G_g101 u610
    (fun x636 =>
      cond (decide ((IntKind.wrap .i64 (x636 + p609)) > (192 : Int)))
       (
        G_g102 u610
          (fun b639 =>
            cond (!b639)
             (
              k673 [0, 0, 0, 0, 0, 0] false)
             (
              L_g87l0 p609 u610 [0, 0, 0, 0, 0, 0]
                (fun l671 =>
                  k673 l671 true)
                (0 : Int) [0, 0, 0, 0, 0, 0])))
       (
        L_g87l0 p609 u610 [0, 0, 0, 0, 0, 0]
          (fun l672 =>
            k673 l672 true)
          (0 : Int) [0, 0, 0, 0, 0, 0]))
def g87 {α : Type} (m : Nat) : Int → (List Int) → ((List Int) → Bool → Option α) → Option α :=
  g87b (g101 m) (g102 m) (g87l0M m)
def g87tp : List TP := [(.vl (.sv (.ptr 0 0))), (.vl (.sv (.int .i64)))]
def g87bp : List BP := [(false, [(.seq (.int .u32) 6)])]
def g87K {α : Type} (G : Int → (List Int) → ((List Int) → Bool → Option α) → Option α) (ls : List Lf) (k : TV → List (List Seg) → List (List Seg) → Option α) : Option α :=
  G (lf ls 0).int ((lf ls 1).lst (.int .u32))
    (fun y0 y1 => k (.tup [(.agg [(.seq (.int .u32) 6 y0)]), (.sv (.bool y1))]) [[(.seq (.int .u32) 6 ((lf ls 1).lst (.int .u32)))]] [])
def g87hd (G_g101 : {α : Type} → (List Int) → (Int → Option α) → Option α) (G_g102 : {α : Type} → (List Int) → (Bool → Option α) → Option α) (L_g87l0 : {α : Type} → Int → (List Int) → (List Int) → ((List Int) → Option α) → Int → (List Int) → Option α) : Hd where
  call := fun f args Bs k => cond (Nat.beq f 101) (rowK g101tp g101bp (g101K G_g101) args Bs k) (cond (Nat.beq f 102) (rowK g102tp g102bp (g102K G_g102) args Bs k) (none))
  loop := fun id st k => cond (Nat.beq id 0) (loopH g87l0D (g87l0K L_g87l0) st k) (none)
  ro := fun f => cond (Nat.beq f 101) [0] (cond (Nat.beq f 102) [0] ([]))
def g87h (m : Nat) : Hd := g87hd (g101 m) (g102 m) (g87l0M m)
theorem g87l0Step (G_g101 : {α : Type} → (List Int) → (Int → Option α) → Option α) (G_g102 : {α : Type} → (List Int) → (Bool → Option α) → Option α) (L_g87l0 : {α : Type} → Int → (List Int) → (List Int) → ((List Int) → Option α) → Int → (List Int) → Option α) {α : Type} (L : Int → (List Int) → (List Int) → ((List Int) → Option α) → Int → (List Int) → Option α) (ls : List Lf) (k : Ex → St → Option α) :
    g87l0K (fun v641 a643 a644 k669 v642 a645 => g87l0b v641 a643 a644 k669 (L v641 a643 a644 k669) v642 a645) ls k = ev tab (g87hd G_g101 G_g102 L_g87l0) (bodyAt Go.Proofs.Try.f87 0) (atHead g87l0D ls) (loopK g87l0D 0 (loopH g87l0D (g87l0K L)) k) := by kernel_rfl
theorem g87Main (G_g101 : {α : Type} → (List Int) → (Int → Option α) → Option α) (G_g102 : {α : Type} → (List Int) → (Bool → Option α) → Option α) (L_g87l0 : {α : Type} → Int → (List Int) → (List Int) → ((List Int) → Option α) → Int → (List Int) → Option α) {α : Type} (ls : List Lf) (k : TV → List (List Seg) → List (List Seg) → Option α) :
    g87K (g87b G_g101 G_g102 L_g87l0) ls k = evFun tab (g87hd G_g101 G_g102 L_g87l0) Go.Proofs.Try.f87 (fillT g87tp ls).1 (fillB g87bp (fillT g87tp ls).2).1 k := by kernel_rfl
theorem g87Calls (m : Nat) : (g87h m).CallsOk Go.Proofs.Try.prog := (cok_cons (g101Ok m) (cok_cons (g102Ok m) cok_nil))
theorem g87l0Ok (m : Nat) (α : Type) (st : St) (k : Ex → St → Option α) (r : α) (h : (g87h m).loop 0 st k = some r) :
    ∃ e st', k e st' = some r ∧ CodeS Go.Proofs.Try.prog (.block 0 (.loop (bodyAt Go.Proofs.Try.f87 0))) st e st' :=
  loop_ok (tab := tab) (h := g87h m) (F := fun n ls k => g87l0K (fun v641 a643 a644 k669 v642 a645 => g87l0 v641 a643 a644 k669 n v642 a645) ls k) tabOk (g87Calls m) mixed (loopsOk_of _ (fun p hp => by rw [show loopsOf (bodyAt Go.Proofs.Try.f87 0) = [] by kernel_rfl] at hp; cases hp))
    (fun _ _ => rfl) (fun n ls k => g87l0Step (g101 m) (g102 m) (g87l0M m) (fun v641 a643 a644 k669 => g87l0 v641 a643 a644 k669 n) ls k) (n := m) h
theorem g87Fn (m : Nat) : FnOk Go.Proofs.Try.prog 87 g87tp g87bp (fun {α} => g87K (g87 (α := α) m)) :=
  fn_ok (tab := tab) (h := g87h m) (fn := Go.Proofs.Try.f87) (F := fun {α} => g87K (g87 (α := α) m)) tabOk (g87Calls m) mixed (by kernel_rfl) (by kernel_rfl) (fun c hc => by
    rw [bodyOf_some hc]
    exact loopsOk_of _ (fun p hp => by
    rw [show loopsOf (bodyOf Go.Proofs.Try.f87) = [(0, bodyAt Go.Proofs.Try.f87 0)] by kernel_rfl] at hp
    simp only [List.mem_cons, List.not_mem_nil, or_false] at hp
    rcases hp with rfl
    exact g87l0Ok m))
    (fun α ls k => g87Main (g101 m) (g102 m) (g87l0M m) ls k)
theorem g87Ok (m : Nat) : RowOk Go.Proofs.Try.prog 87 (fun {α} => rowK g87tp g87bp (g87K (g87 (α := α) m))) := row_of (g87Fn m)

/-! ### g59: spec.l01Up -/
def g59b {α : Type} (G_g87 : {α : Type} → Int → (List Int) → ((List Int) → Bool → Option α) → Option α) (G_g88 : {α : Type} → Bool → (List Int) → (Bool → Option α) → Option α)  (q606 : Bool) (u607 : List Int) (p608 : Int) (k678 : Bool → (List Int) → Int → Option α) : Option α :=
  G_g87 p608 u607
    (fun l674 b675 =>
      cond (!b675)
       (
        k678 false [0, 0, 0, 0, 0, 0] (3 : Int))
       (
        G_g88 q606 l674
          (fun b677 =>
            k678 b677 l674 (0 : Int))))
def g59 {α : Type} (m : Nat) : Bool → (List Int) → Int → (Bool → (List Int) → Int → Option α) → Option α :=
  g59b (g87 m) (g88 m)
def g59tp : List TP := [(.vl (.agg [(.one .bool), (.seq (.int .u32) 6)])), (.vl (.sv (.int .i64)))]
def g59bp : List BP := []
def g59K {α : Type} (G : Bool → (List Int) → Int → (Bool → (List Int) → Int → Option α) → Option α) (ls : List Lf) (k : TV → List (List Seg) → List (List Seg) → Option α) : Option α :=
  G (lf ls 0).bool ((lf ls 1).lst (.int .u32)) (lf ls 2).int
    (fun y0 y1 y2 => k (.tup [(.agg [(.one (.bool y0)), (.seq (.int .u32) 6 y1)]), (.sv (.int .i64 y2))]) [] [])
def g59hd (G_g87 : {α : Type} → Int → (List Int) → ((List Int) → Bool → Option α) → Option α) (G_g88 : {α : Type} → Bool → (List Int) → (Bool → Option α) → Option α)  : Hd where
  call := fun f args Bs k => cond (Nat.beq f 87) (rowK g87tp g87bp (g87K G_g87) args Bs k) (cond (Nat.beq f 88) (rowK g88tp g88bp (g88K G_g88) args Bs k) (none))
  loop := fun id st k => none
  ro := fun f => cond (Nat.beq f 87) [0] ([])
def g59h (m : Nat) : Hd := g59hd (g87 m) (g88 m)
theorem g59Main (G_g87 : {α : Type} → Int → (List Int) → ((List Int) → Bool → Option α) → Option α) (G_g88 : {α : Type} → Bool → (List Int) → (Bool → Option α) → Option α)  {α : Type} (ls : List Lf) (k : TV → List (List Seg) → List (List Seg) → Option α) :
    g59K (g59b G_g87 G_g88) ls k = evFun tab (g59hd G_g87 G_g88) Go.Proofs.Try.f59 (fillT g59tp ls).1 (fillB g59bp (fillT g59tp ls).2).1 k := by kernel_rfl
theorem g59Calls (m : Nat) : (g59h m).CallsOk Go.Proofs.Try.prog := (cok_cons (g87Ok m) (cok_cons (g88Ok m) cok_nil))
theorem g59Fn (m : Nat) : FnOk Go.Proofs.Try.prog 59 g59tp g59bp (fun {α} => g59K (g59 (α := α) m)) :=
  fn_ok (tab := tab) (h := g59h m) (fn := Go.Proofs.Try.f59) (F := fun {α} => g59K (g59 (α := α) m)) tabOk (g59Calls m) mixed (by kernel_rfl) (by kernel_rfl) (fun c hc => by
    rw [bodyOf_some hc]
    exact loopsOk_of _ (fun p hp => by rw [show loopsOf (bodyOf Go.Proofs.Try.f59) = [] by kernel_rfl] at hp; cases hp))
    (fun α ls k => g59Main (g87 m) (g88 m) ls k)
theorem g59Ok (m : Nat) : RowOk Go.Proofs.Try.prog 59 (fun {α} => rowK g59tp g59bp (g59K (g59 (α := α) m))) := row_of (g59Fn m)

/-! ### g61: spec.l01Neg -/
def g61b {α : Type} (G_g88 : {α : Type} → Bool → (List Int) → (Bool → Option α) → Option α)  (q683 : Bool) (u684 : List Int) (k687 : Bool → Option α) : Option α :=
  G_g88 (!q683) u684
    (fun b686 =>
      k687 b686)
def g61 {α : Type} (m : Nat) : Bool → (List Int) → (Bool → Option α) → Option α :=
  g61b (g88 m)
def g61tp : List TP := [(.vl (.agg [(.one .bool), (.seq (.int .u32) 6)]))]
def g61bp : List BP := []
def g61K {α : Type} (G : Bool → (List Int) → (Bool → Option α) → Option α) (ls : List Lf) (k : TV → List (List Seg) → List (List Seg) → Option α) : Option α :=
  G (lf ls 0).bool ((lf ls 1).lst (.int .u32))
    (fun y0 => k (.vl (.agg [(.one (.bool y0)), (.seq (.int .u32) 6 ((lf ls 1).lst (.int .u32)))])) [] [])
def g61hd (G_g88 : {α : Type} → Bool → (List Int) → (Bool → Option α) → Option α)  : Hd where
  call := fun f args Bs k => cond (Nat.beq f 88) (rowK g88tp g88bp (g88K G_g88) args Bs k) (none)
  loop := fun id st k => none
  ro := fun f => []
def g61h (m : Nat) : Hd := g61hd (g88 m)
theorem g61Main (G_g88 : {α : Type} → Bool → (List Int) → (Bool → Option α) → Option α)  {α : Type} (ls : List Lf) (k : TV → List (List Seg) → List (List Seg) → Option α) :
    g61K (g61b G_g88) ls k = evFun tab (g61hd G_g88) Go.Proofs.Try.f61 (fillT g61tp ls).1 (fillB g61bp (fillT g61tp ls).2).1 k := by kernel_rfl
theorem g61Calls (m : Nat) : (g61h m).CallsOk Go.Proofs.Try.prog := (cok_cons (g88Ok m) cok_nil)
theorem g61Fn (m : Nat) : FnOk Go.Proofs.Try.prog 61 g61tp g61bp (fun {α} => g61K (g61 (α := α) m)) :=
  fn_ok (tab := tab) (h := g61h m) (fn := Go.Proofs.Try.f61) (F := fun {α} => g61K (g61 (α := α) m)) tabOk (g61Calls m) mixed (by kernel_rfl) (by kernel_rfl) (fun c hc => by
    rw [bodyOf_some hc]
    exact loopsOk_of _ (fun p hp => by rw [show loopsOf (bodyOf Go.Proofs.Try.f61) = [] by kernel_rfl] at hp; cases hp))
    (fun α ls k => g61Main (g88 m) ls k)
theorem g61Ok (m : Nat) : RowOk Go.Proofs.Try.prog 61 (fun {α} => rowK g61tp g61bp (g61K (g61 (α := α) m))) := row_of (g61Fn m)

/-! ### g63: spec.l01Compare -/
def g63b {α : Type} (G_g90 : {α : Type} → (List Int) → (List Int) → (Int → Option α) → Option α)  (q703 : Bool) (u704 : List Int) (q705 : Bool) (u706 : List Int) (k718 : Int → Option α) : Option α :=
  cond q703
   (
    cond (!q705)
     (
      k718 (-1 : Int))
     (
      cond (!q703)
       (
        cond q705
         (
          k718 (1 : Int))
         (
          cond q703
           (
            G_g90 u706 u704
              (fun x709 =>
                k718 x709))
           (
            G_g90 u704 u706
              (fun x710 =>
                k718 x710))))
       (
        cond q703
         (
          G_g90 u706 u704
            (fun x711 =>
              k718 x711))
         (
          G_g90 u704 u706
            (fun x712 =>
              k718 x712)))))
   (
    cond (!q703)
     (
      cond q705
       (
        k718 (1 : Int))
       (
        cond q703
         (
          G_g90 u706 u704
            (fun x714 =>
              k718 x714))
         (
          G_g90 u704 u706
            (fun x715 =>
              k718 x715))))
     (
      cond q703
       (
        G_g90 u706 u704
          (fun x716 =>
            k718 x716))
       (
        G_g90 u704 u706
          (fun x717 =>
            k718 x717))))
def g63 {α : Type} (m : Nat) : Bool → (List Int) → Bool → (List Int) → (Int → Option α) → Option α :=
  g63b (g90 m)
def g63tp : List TP := [(.vl (.sv (.ptr 0 0))), (.vl (.sv (.ptr 1 0)))]
def g63bp : List BP := [(false, [(.one .bool), (.seq (.int .u32) 6)]), (false, [(.one .bool), (.seq (.int .u32) 6)])]
def g63K {α : Type} (G : Bool → (List Int) → Bool → (List Int) → (Int → Option α) → Option α) (ls : List Lf) (k : TV → List (List Seg) → List (List Seg) → Option α) : Option α :=
  G (lf ls 0).bool ((lf ls 1).lst (.int .u32)) (lf ls 2).bool ((lf ls 3).lst (.int .u32))
    (fun y0 => k (.vl (.sv (.int .i64 y0))) [[(.one (.bool (lf ls 0).bool)), (.seq (.int .u32) 6 ((lf ls 1).lst (.int .u32)))], [(.one (.bool (lf ls 2).bool)), (.seq (.int .u32) 6 ((lf ls 3).lst (.int .u32)))]] [])
def g63hd (G_g90 : {α : Type} → (List Int) → (List Int) → (Int → Option α) → Option α)  : Hd where
  call := fun f args Bs k => cond (Nat.beq f 90) (rowK g90tp g90bp (g90K G_g90) args Bs k) (none)
  loop := fun id st k => none
  ro := fun f => cond (Nat.beq f 90) [0, 1] ([])
def g63h (m : Nat) : Hd := g63hd (g90 m)
theorem g63Main (G_g90 : {α : Type} → (List Int) → (List Int) → (Int → Option α) → Option α)  {α : Type} (ls : List Lf) (k : TV → List (List Seg) → List (List Seg) → Option α) :
    g63K (g63b G_g90) ls k = evFun tab (g63hd G_g90) Go.Proofs.Try.f63 (fillT g63tp ls).1 (fillB g63bp (fillT g63tp ls).2).1 k := by kernel_rfl
theorem g63Calls (m : Nat) : (g63h m).CallsOk Go.Proofs.Try.prog := (cok_cons (g90Ok m) cok_nil)
theorem g63Fn (m : Nat) : FnOk Go.Proofs.Try.prog 63 g63tp g63bp (fun {α} => g63K (g63 (α := α) m)) :=
  fn_ok (tab := tab) (h := g63h m) (fn := Go.Proofs.Try.f63) (F := fun {α} => g63K (g63 (α := α) m)) tabOk (g63Calls m) mixed (by kernel_rfl) (by kernel_rfl) (fun c hc => by
    rw [bodyOf_some hc]
    exact loopsOk_of _ (fun p hp => by rw [show loopsOf (bodyOf Go.Proofs.Try.f63) = [] by kernel_rfl] at hp; cases hp))
    (fun α ls k => g63Main (g90 m) ls k)
theorem g63Ok (m : Nat) : RowOk Go.Proofs.Try.prog 63 (fun {α} => rowK g63tp g63bp (g63K (g63 (α := α) m))) := row_of (g63Fn m)
end Go.Proofs.Ytobejeiffgehfaa.Sx
