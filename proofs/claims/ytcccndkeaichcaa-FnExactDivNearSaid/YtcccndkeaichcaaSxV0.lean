/- Functions. Printed by our own sx.py. -/
import Derived.Test.YtcccndkeaichcaaSxT
namespace Go.Proofs.Ytcccndkeaichcaa.Sx
open Go
set_option linter.unusedVariables false
set_option maxRecDepth 100000
/-! ### g65: laws.toUint32A6 -/
def g65l0b {α : Type}   (a7 : List Int) (a8 : List Int) (k14 : (List Int) → Option α) (r15 : Int → (List Int) → Option α) (v6 : Int) (a9 : List Int) : Option α :=
  cond (decide (v6 < (6 : Int)))
   (
    if 0 ≤ v6 ∧ v6 < (6 : Nat) then
      if v6.toNat < 6 then
        if 0 ≤ v6 ∧ v6 < (6 : Nat) then
          if v6.toNat < 6 then
            r15 (IntKind.wrap .i64 (v6 + (1 : Int))) (List.set a9 (v6.toNat) (List.getD a7 v6.toNat 0))
          else
            none
        else
          none
      else
        none
    else
      none)
   (
    k14 a9)
def g65l0 {α : Type}   (a7 : List Int) (a8 : List Int) (k14 : (List Int) → Option α) : Nat → Int → (List Int) → Option α
  | 0 => fun _ _ => none
  | m + 1 => fun v6 a9 => g65l0b a7 a8 k14 (g65l0 a7 a8 k14 m) v6 a9
def g65l0M {α : Type} (m : Nat) : (List Int) → (List Int) → ((List Int) → Option α) → Int → (List Int) → Option α :=
  fun a7 a8 k14 v6 a9 => g65l0 a7 a8 k14 m v6 a9
def g65l0D : LoopD := { n := 15, sl := [1, 2, 3, 4], bl := [1001, 1002, 1003], tp := [(.vl (.sv (.ptr 1001 0))), (.vl (.sv (.ptr 1002 0))), (.vl (.sv (.ptr 1003 0))), (.vl (.sv (.int .i64)))], bp := [(true, [(.seq (.int .u32) 6)]), (true, [(.seq (.int .u32) 6)]), (true, [(.seq (.int .u32) 6)])], xs := [(2, [2, 3], [1002, 1003])] }
def g65l0K {α : Type} (L : (List Int) → (List Int) → ((List Int) → Option α) → Int → (List Int) → Option α) (ls : List Lf) (k : Ex → St → Option α) : Option α :=
  L ((lf ls 1).lst (.int .u32)) ((lf ls 2).lst (.int .u32))
    (fun y1 => k .normal (mkSt 15 [2, 3] [(.vl (.sv (.ptr 1002 0))), (.vl (.sv (.ptr 1003 0)))] [1002, 1003] [(true, [(.seq (.int .u32) 6 ((lf ls 2).lst (.int .u32)))]), (true, [(.seq (.int .u32) 6 y1)])]))
    (lf ls 0).int ((lf ls 3).lst (.int .u32))
def g65b {α : Type}  (L_g65l0 : {α : Type} → (List Int) → (List Int) → ((List Int) → Option α) → Int → (List Int) → Option α) (u5 : List Int) (k17 : (List Int) → Option α) : Option α :=
  L_g65l0 u5 [0, 0, 0, 0, 0, 0]
    (fun l16 =>
      k17 l16)
    (0 : Int) [0, 0, 0, 0, 0, 0]
def g65 {α : Type} (m : Nat) : (List Int) → ((List Int) → Option α) → Option α :=
  g65b (g65l0M m)
def g65tp : List TP := [(.vl (.agg [(.seq (.int .u32) 6)]))]
def g65bp : List BP := []
def g65K {α : Type} (G : (List Int) → ((List Int) → Option α) → Option α) (ls : List Lf) (k : TV → List (List Seg) → List (List Seg) → Option α) : Option α :=
  G ((lf ls 0).lst (.int .u32))
    (fun y0 => k (.vl (.agg [(.seq (.int .u32) 6 y0)])) [] [])
def g65hd  (L_g65l0 : {α : Type} → (List Int) → (List Int) → ((List Int) → Option α) → Int → (List Int) → Option α) : Hd where
  call := fun f args Bs k => none
  loop := fun id st k => cond (Nat.beq id 0) (loopH g65l0D (g65l0K L_g65l0) st k) (none)
  ro := fun f => []
def g65h (m : Nat) : Hd := g65hd (g65l0M m)
theorem g65l0Step  (L_g65l0 : {α : Type} → (List Int) → (List Int) → ((List Int) → Option α) → Int → (List Int) → Option α) {α : Type} (L : (List Int) → (List Int) → ((List Int) → Option α) → Int → (List Int) → Option α) (ls : List Lf) (k : Ex → St → Option α) :
    g65l0K (fun a7 a8 k14 v6 a9 => g65l0b a7 a8 k14 (L a7 a8 k14) v6 a9) ls k = ev tab (g65hd L_g65l0) (bodyAt Go.Proofs.Try.f65 0) (atHead g65l0D ls) (loopK g65l0D 0 (loopH g65l0D (g65l0K L)) k) := by kernel_rfl
theorem g65Main  (L_g65l0 : {α : Type} → (List Int) → (List Int) → ((List Int) → Option α) → Int → (List Int) → Option α) {α : Type} (ls : List Lf) (k : TV → List (List Seg) → List (List Seg) → Option α) :
    g65K (g65b L_g65l0) ls k = evFun tab (g65hd L_g65l0) Go.Proofs.Try.f65 (fillT g65tp ls).1 (fillB g65bp (fillT g65tp ls).2).1 k := by kernel_rfl
theorem g65Calls (m : Nat) : (g65h m).CallsOk Go.Proofs.Try.prog := cok_nil
theorem g65l0Ok (m : Nat) (α : Type) (st : St) (k : Ex → St → Option α) (r : α) (h : (g65h m).loop 0 st k = some r) :
    ∃ e st', k e st' = some r ∧ CodeS Go.Proofs.Try.prog (.block 0 (.loop (bodyAt Go.Proofs.Try.f65 0))) st e st' :=
  loop_ok (tab := tab) (h := g65h m) (F := fun n ls k => g65l0K (fun a7 a8 k14 v6 a9 => g65l0 a7 a8 k14 n v6 a9) ls k) tabOk (g65Calls m) mixed (loopsOk_of _ (fun p hp => by rw [show loopsOf (bodyAt Go.Proofs.Try.f65 0) = [] by kernel_rfl] at hp; cases hp))
    (fun _ _ => rfl) (fun n ls k => g65l0Step (g65l0M m) (fun a7 a8 k14 => g65l0 a7 a8 k14 n) ls k) (n := m) h
theorem g65Fn (m : Nat) : FnOk Go.Proofs.Try.prog 65 g65tp g65bp (fun {α} => g65K (g65 (α := α) m)) :=
  fn_ok (tab := tab) (h := g65h m) (fn := Go.Proofs.Try.f65) (F := fun {α} => g65K (g65 (α := α) m)) tabOk (g65Calls m) mixed (by kernel_rfl) (by kernel_rfl) (fun c hc => by
    rw [bodyOf_some hc]
    exact loopsOk_of _ (fun p hp => by
    rw [show loopsOf (bodyOf Go.Proofs.Try.f65) = [(0, bodyAt Go.Proofs.Try.f65 0)] by kernel_rfl] at hp
    simp only [List.mem_cons, List.not_mem_nil, or_false] at hp
    rcases hp with rfl
    exact g65l0Ok m))
    (fun α ls k => g65Main (g65l0M m) ls k)
theorem g65Ok (m : Nat) : RowOk Go.Proofs.Try.prog 65 (fun {α} => rowK g65tp g65bp (g65K (g65 (α := α) m))) := row_of (g65Fn m)

/-! ### g23: laws.toWide -/
def g23b {α : Type} (G_g65 : {α : Type} → (List Int) → ((List Int) → Option α) → Option α)  (q3 : Bool) (u4 : List Int) (k19 : (List Int) → Option α) : Option α :=
  G_g65 u4
    (fun l18 =>
      k19 l18)
def g23 {α : Type} (m : Nat) : Bool → (List Int) → ((List Int) → Option α) → Option α :=
  g23b (g65 m)
def g23tp : List TP := [(.vl (.agg [(.one .bool), (.seq (.int .u32) 6)]))]
def g23bp : List BP := []
def g23K {α : Type} (G : Bool → (List Int) → ((List Int) → Option α) → Option α) (ls : List Lf) (k : TV → List (List Seg) → List (List Seg) → Option α) : Option α :=
  G (lf ls 0).bool ((lf ls 1).lst (.int .u32))
    (fun y1 => k (.vl (.agg [(.one (.bool (lf ls 0).bool)), (.seq (.int .u32) 6 y1)])) [] [])
def g23hd (G_g65 : {α : Type} → (List Int) → ((List Int) → Option α) → Option α)  : Hd where
  call := fun f args Bs k => cond (Nat.beq f 65) (rowK g65tp g65bp (g65K G_g65) args Bs k) (none)
  loop := fun id st k => none
  ro := fun f => []
def g23h (m : Nat) : Hd := g23hd (g65 m)
theorem g23Main (G_g65 : {α : Type} → (List Int) → ((List Int) → Option α) → Option α)  {α : Type} (ls : List Lf) (k : TV → List (List Seg) → List (List Seg) → Option α) :
    g23K (g23b G_g65) ls k = evFun tab (g23hd G_g65) Go.Proofs.Try.f23 (fillT g23tp ls).1 (fillB g23bp (fillT g23tp ls).2).1 k := by kernel_rfl
theorem g23Calls (m : Nat) : (g23h m).CallsOk Go.Proofs.Try.prog := (cok_cons (g65Ok m) cok_nil)
theorem g23Fn (m : Nat) : FnOk Go.Proofs.Try.prog 23 g23tp g23bp (fun {α} => g23K (g23 (α := α) m)) :=
  fn_ok (tab := tab) (h := g23h m) (fn := Go.Proofs.Try.f23) (F := fun {α} => g23K (g23 (α := α) m)) tabOk (g23Calls m) mixed (by kernel_rfl) (by kernel_rfl) (fun c hc => by
    rw [bodyOf_some hc]
    exact loopsOk_of _ (fun p hp => by rw [show loopsOf (bodyOf Go.Proofs.Try.f23) = [] by kernel_rfl] at hp; cases hp))
    (fun α ls k => g23Main (g65 m) ls k)
theorem g23Ok (m : Nat) : RowOk Go.Proofs.Try.prog 23 (fun {α} => rowK g23tp g23bp (g23K (g23 (α := α) m))) := row_of (g23Fn m)

/-! ### g64: spec.l01Ok -/
def g64b {α : Type}   (q23 : Bool) (u24 : List Int) (k27 : Bool → Option α) : Option α :=
  cond (!q23)
   (
    k27 true)
   (
    k27 (!(eqLI u24 [0, 0, 0, 0, 0, 0])))
def g64 {α : Type} (m : Nat) : Bool → (List Int) → (Bool → Option α) → Option α :=
  g64b
def g64tp : List TP := [(.vl (.sv (.ptr 0 0)))]
def g64bp : List BP := [(false, [(.one .bool), (.seq (.int .u32) 6)])]
def g64K {α : Type} (G : Bool → (List Int) → (Bool → Option α) → Option α) (ls : List Lf) (k : TV → List (List Seg) → List (List Seg) → Option α) : Option α :=
  G (lf ls 0).bool ((lf ls 1).lst (.int .u32))
    (fun y0 => k (.vl (.sv (.bool y0))) [[(.one (.bool (lf ls 0).bool)), (.seq (.int .u32) 6 ((lf ls 1).lst (.int .u32)))]] [])
def g64hd   : Hd where
  call := fun f args Bs k => none
  loop := fun id st k => none
  ro := fun f => []
def g64h (m : Nat) : Hd := g64hd
theorem g64Main   {α : Type} (ls : List Lf) (k : TV → List (List Seg) → List (List Seg) → Option α) :
    g64K (g64b) ls k = evFun tab (g64hd) Go.Proofs.Try.f64 (fillT g64tp ls).1 (fillB g64bp (fillT g64tp ls).2).1 k := by kernel_rfl
theorem g64Calls (m : Nat) : (g64h m).CallsOk Go.Proofs.Try.prog := cok_nil
theorem g64Fn (m : Nat) : FnOk Go.Proofs.Try.prog 64 g64tp g64bp (fun {α} => g64K (g64 (α := α) m)) :=
  fn_ok (tab := tab) (h := g64h m) (fn := Go.Proofs.Try.f64) (F := fun {α} => g64K (g64 (α := α) m)) tabOk (g64Calls m) mixed (by kernel_rfl) (by kernel_rfl) (fun c hc => by
    rw [bodyOf_some hc]
    exact loopsOk_of _ (fun p hp => by rw [show loopsOf (bodyOf Go.Proofs.Try.f64) = [] by kernel_rfl] at hp; cases hp))
    (fun α ls k => g64Main ls k)
theorem g64Ok (m : Nat) : RowOk Go.Proofs.Try.prog 64 (fun {α} => rowK g64tp g64bp (g64K (g64 (α := α) m))) := row_of (g64Fn m)

/-! ### g22: spec.ValidWide -/
def g22b {α : Type} (G_g64 : {α : Type} → Bool → (List Int) → (Bool → Option α) → Option α)  (q21 : Bool) (u22 : List Int) (k29 : Bool → Option α) : Option α :=
  G_g64 q21 u22
    (fun b28 =>
      k29 b28)
def g22 {α : Type} (m : Nat) : Bool → (List Int) → (Bool → Option α) → Option α :=
  g22b (g64 m)
def g22tp : List TP := [(.vl (.agg [(.one .bool), (.seq (.int .u32) 6)]))]
def g22bp : List BP := []
def g22K {α : Type} (G : Bool → (List Int) → (Bool → Option α) → Option α) (ls : List Lf) (k : TV → List (List Seg) → List (List Seg) → Option α) : Option α :=
  G (lf ls 0).bool ((lf ls 1).lst (.int .u32))
    (fun y0 => k (.vl (.sv (.bool y0))) [] [])
def g22hd (G_g64 : {α : Type} → Bool → (List Int) → (Bool → Option α) → Option α)  : Hd where
  call := fun f args Bs k => cond (Nat.beq f 64) (rowK g64tp g64bp (g64K G_g64) args Bs k) (none)
  loop := fun id st k => none
  ro := fun f => cond (Nat.beq f 64) [0] ([])
def g22h (m : Nat) : Hd := g22hd (g64 m)
theorem g22Main (G_g64 : {α : Type} → Bool → (List Int) → (Bool → Option α) → Option α)  {α : Type} (ls : List Lf) (k : TV → List (List Seg) → List (List Seg) → Option α) :
    g22K (g22b G_g64) ls k = evFun tab (g22hd G_g64) Go.Proofs.Try.f22 (fillT g22tp ls).1 (fillB g22bp (fillT g22tp ls).2).1 k := by kernel_rfl
theorem g22Calls (m : Nat) : (g22h m).CallsOk Go.Proofs.Try.prog := (cok_cons (g64Ok m) cok_nil)
theorem g22Fn (m : Nat) : FnOk Go.Proofs.Try.prog 22 g22tp g22bp (fun {α} => g22K (g22 (α := α) m)) :=
  fn_ok (tab := tab) (h := g22h m) (fn := Go.Proofs.Try.f22) (F := fun {α} => g22K (g22 (α := α) m)) tabOk (g22Calls m) mixed (by kernel_rfl) (by kernel_rfl) (fun c hc => by
    rw [bodyOf_some hc]
    exact loopsOk_of _ (fun p hp => by rw [show loopsOf (bodyOf Go.Proofs.Try.f22) = [] by kernel_rfl] at hp; cases hp))
    (fun α ls k => g22Main (g64 m) ls k)
theorem g22Ok (m : Nat) : RowOk Go.Proofs.Try.prog 22 (fun {α} => rowK g22tp g22bp (g22K (g22 (α := α) m))) := row_of (g22Fn m)

/-! ### g24: impl.ValidWide -/
def g24b {α : Type}   (q32 : Bool) (u33 : List Int) (k36 : Bool → Option α) : Option α :=
  cond (!q32)
   (
    k36 true)
   (
    k36 (!(eqLI u33 [0, 0, 0, 0, 0, 0])))
def g24 {α : Type} (m : Nat) : Bool → (List Int) → (Bool → Option α) → Option α :=
  g24b
def g24tp : List TP := [(.vl (.agg [(.one .bool), (.seq (.int .u32) 6)]))]
def g24bp : List BP := []
def g24K {α : Type} (G : Bool → (List Int) → (Bool → Option α) → Option α) (ls : List Lf) (k : TV → List (List Seg) → List (List Seg) → Option α) : Option α :=
  G (lf ls 0).bool ((lf ls 1).lst (.int .u32))
    (fun y0 => k (.vl (.sv (.bool y0))) [] [])
def g24hd   : Hd where
  call := fun f args Bs k => none
  loop := fun id st k => none
  ro := fun f => []
def g24h (m : Nat) : Hd := g24hd
theorem g24Main   {α : Type} (ls : List Lf) (k : TV → List (List Seg) → List (List Seg) → Option α) :
    g24K (g24b) ls k = evFun tab (g24hd) Go.Proofs.Try.f24 (fillT g24tp ls).1 (fillB g24bp (fillT g24tp ls).2).1 k := by kernel_rfl
theorem g24Calls (m : Nat) : (g24h m).CallsOk Go.Proofs.Try.prog := cok_nil
theorem g24Fn (m : Nat) : FnOk Go.Proofs.Try.prog 24 g24tp g24bp (fun {α} => g24K (g24 (α := α) m)) :=
  fn_ok (tab := tab) (h := g24h m) (fn := Go.Proofs.Try.f24) (F := fun {α} => g24K (g24 (α := α) m)) tabOk (g24Calls m) mixed (by kernel_rfl) (by kernel_rfl) (fun c hc => by
    rw [bodyOf_some hc]
    exact loopsOk_of _ (fun p hp => by rw [show loopsOf (bodyOf Go.Proofs.Try.f24) = [] by kernel_rfl] at hp; cases hp))
    (fun α ls k => g24Main ls k)
theorem g24Ok (m : Nat) : RowOk Go.Proofs.Try.prog 24 (fun {α} => rowK g24tp g24bp (g24K (g24 (α := α) m))) := row_of (g24Fn m)

/-! ### g3: laws.FnExactValidWide -/
def g3b {α : Type} (G_g23 : {α : Type} → Bool → (List Int) → ((List Int) → Option α) → Option α) (G_g22 : {α : Type} → Bool → (List Int) → (Bool → Option α) → Option α) (G_g24 : {α : Type} → Bool → (List Int) → (Bool → Option α) → Option α)  (q1 : Bool) (u2 : List Int) (k39 : Bool → Option α) : Option α :=
  G_g23 q1 u2
    (fun l20 =>
      G_g22 q1 l20
        (fun b30 =>
          G_g23 q1 u2
            (fun l31 =>
              G_g24 q1 l31
                (fun b37 =>
                  cond (!(b37 == b30))
                   (
                    k39 false)
                   (
                    k39 true)))))
def g3 {α : Type} (m : Nat) : Bool → (List Int) → (Bool → Option α) → Option α :=
  g3b (g23 m) (g22 m) (g24 m)
def g3tp : List TP := [(.vl (.agg [(.one .bool), (.seq (.int .u32) 6)]))]
def g3bp : List BP := []
def g3K {α : Type} (G : Bool → (List Int) → (Bool → Option α) → Option α) (ls : List Lf) (k : TV → List (List Seg) → List (List Seg) → Option α) : Option α :=
  G (lf ls 0).bool ((lf ls 1).lst (.int .u32))
    (fun y0 => k (.vl (.sv (.bool y0))) [] [])
def g3hd (G_g23 : {α : Type} → Bool → (List Int) → ((List Int) → Option α) → Option α) (G_g22 : {α : Type} → Bool → (List Int) → (Bool → Option α) → Option α) (G_g24 : {α : Type} → Bool → (List Int) → (Bool → Option α) → Option α)  : Hd where
  call := fun f args Bs k => cond (Nat.beq f 23) (rowK g23tp g23bp (g23K G_g23) args Bs k) (cond (Nat.beq f 22) (rowK g22tp g22bp (g22K G_g22) args Bs k) (cond (Nat.beq f 24) (rowK g24tp g24bp (g24K G_g24) args Bs k) (none)))
  loop := fun id st k => none
  ro := fun f => []
def g3h (m : Nat) : Hd := g3hd (g23 m) (g22 m) (g24 m)
theorem g3Main (G_g23 : {α : Type} → Bool → (List Int) → ((List Int) → Option α) → Option α) (G_g22 : {α : Type} → Bool → (List Int) → (Bool → Option α) → Option α) (G_g24 : {α : Type} → Bool → (List Int) → (Bool → Option α) → Option α)  {α : Type} (ls : List Lf) (k : TV → List (List Seg) → List (List Seg) → Option α) :
    g3K (g3b G_g23 G_g22 G_g24) ls k = evFun tab (g3hd G_g23 G_g22 G_g24) Go.Proofs.Try.f3 (fillT g3tp ls).1 (fillB g3bp (fillT g3tp ls).2).1 k := by kernel_rfl
theorem g3Calls (m : Nat) : (g3h m).CallsOk Go.Proofs.Try.prog := (cok_cons (g23Ok m) (cok_cons (g22Ok m) (cok_cons (g24Ok m) cok_nil)))
theorem g3Fn (m : Nat) : FnOk Go.Proofs.Try.prog 3 g3tp g3bp (fun {α} => g3K (g3 (α := α) m)) :=
  fn_ok (tab := tab) (h := g3h m) (fn := Go.Proofs.Try.f3) (F := fun {α} => g3K (g3 (α := α) m)) tabOk (g3Calls m) mixed (by kernel_rfl) (by kernel_rfl) (fun c hc => by
    rw [bodyOf_some hc]
    exact loopsOk_of _ (fun p hp => by rw [show loopsOf (bodyOf Go.Proofs.Try.f3) = [] by kernel_rfl] at hp; cases hp))
    (fun α ls k => g3Main (g23 m) (g22 m) (g24 m) ls k)
theorem g3Ok (m : Nat) : RowOk Go.Proofs.Try.prog 3 (fun {α} => rowK g3tp g3bp (g3K (g3 (α := α) m))) := row_of (g3Fn m)

/-! ### g101: spec.l01Zero -/
def g101b {α : Type}   (u54 : List Int) (k56 : Bool → Option α) : Option α :=
  k56 (eqLI u54 [0, 0, 0, 0, 0, 0])
def g101 {α : Type} (m : Nat) : (List Int) → (Bool → Option α) → Option α :=
  g101b
def g101tp : List TP := [(.vl (.sv (.ptr 0 0)))]
def g101bp : List BP := [(false, [(.seq (.int .u32) 6)])]
def g101K {α : Type} (G : (List Int) → (Bool → Option α) → Option α) (ls : List Lf) (k : TV → List (List Seg) → List (List Seg) → Option α) : Option α :=
  G ((lf ls 0).lst (.int .u32))
    (fun y0 => k (.vl (.sv (.bool y0))) [[(.seq (.int .u32) 6 ((lf ls 0).lst (.int .u32)))]] [])
def g101hd   : Hd where
  call := fun f args Bs k => none
  loop := fun id st k => none
  ro := fun f => []
def g101h (m : Nat) : Hd := g101hd
theorem g101Main   {α : Type} (ls : List Lf) (k : TV → List (List Seg) → List (List Seg) → Option α) :
    g101K (g101b) ls k = evFun tab (g101hd) Go.Proofs.Try.f101 (fillT g101tp ls).1 (fillB g101bp (fillT g101tp ls).2).1 k := by kernel_rfl
theorem g101Calls (m : Nat) : (g101h m).CallsOk Go.Proofs.Try.prog := cok_nil
theorem g101Fn (m : Nat) : FnOk Go.Proofs.Try.prog 101 g101tp g101bp (fun {α} => g101K (g101 (α := α) m)) :=
  fn_ok (tab := tab) (h := g101h m) (fn := Go.Proofs.Try.f101) (F := fun {α} => g101K (g101 (α := α) m)) tabOk (g101Calls m) mixed (by kernel_rfl) (by kernel_rfl) (fun c hc => by
    rw [bodyOf_some hc]
    exact loopsOk_of _ (fun p hp => by rw [show loopsOf (bodyOf Go.Proofs.Try.f101) = [] by kernel_rfl] at hp; cases hp))
    (fun α ls k => g101Main ls k)
theorem g101Ok (m : Nat) : RowOk Go.Proofs.Try.prog 101 (fun {α} => rowK g101tp g101bp (g101K (g101 (α := α) m))) := row_of (g101Fn m)

/-! ### g71: spec.l01Made -/
def g71b {α : Type} (G_g101 : {α : Type} → (List Int) → (Bool → Option α) → Option α)  (q52 : Bool) (u53 : List Int) (k59 : Bool → Option α) : Option α :=
  cond q52
   (
    G_g101 u53
      (fun b57 =>
        k59 (!b57)))
   (
    k59 false)
def g71 {α : Type} (m : Nat) : Bool → (List Int) → (Bool → Option α) → Option α :=
  g71b (g101 m)
def g71tp : List TP := [(.vl (.sv .bool)), (.vl (.agg [(.seq (.int .u32) 6)]))]
def g71bp : List BP := []
def g71K {α : Type} (G : Bool → (List Int) → (Bool → Option α) → Option α) (ls : List Lf) (k : TV → List (List Seg) → List (List Seg) → Option α) : Option α :=
  G (lf ls 0).bool ((lf ls 1).lst (.int .u32))
    (fun y0 => k (.vl (.agg [(.one (.bool y0)), (.seq (.int .u32) 6 ((lf ls 1).lst (.int .u32)))])) [] [])
def g71hd (G_g101 : {α : Type} → (List Int) → (Bool → Option α) → Option α)  : Hd where
  call := fun f args Bs k => cond (Nat.beq f 101) (rowK g101tp g101bp (g101K G_g101) args Bs k) (none)
  loop := fun id st k => none
  ro := fun f => cond (Nat.beq f 101) [0] ([])
def g71h (m : Nat) : Hd := g71hd (g101 m)
theorem g71Main (G_g101 : {α : Type} → (List Int) → (Bool → Option α) → Option α)  {α : Type} (ls : List Lf) (k : TV → List (List Seg) → List (List Seg) → Option α) :
    g71K (g71b G_g101) ls k = evFun tab (g71hd G_g101) Go.Proofs.Try.f71 (fillT g71tp ls).1 (fillB g71bp (fillT g71tp ls).2).1 k := by kernel_rfl
theorem g71Calls (m : Nat) : (g71h m).CallsOk Go.Proofs.Try.prog := (cok_cons (g101Ok m) cok_nil)
theorem g71Fn (m : Nat) : FnOk Go.Proofs.Try.prog 71 g71tp g71bp (fun {α} => g71K (g71 (α := α) m)) :=
  fn_ok (tab := tab) (h := g71h m) (fn := Go.Proofs.Try.f71) (F := fun {α} => g71K (g71 (α := α) m)) tabOk (g71Calls m) mixed (by kernel_rfl) (by kernel_rfl) (fun c hc => by
    rw [bodyOf_some hc]
    exact loopsOk_of _ (fun p hp => by rw [show loopsOf (bodyOf Go.Proofs.Try.f71) = [] by kernel_rfl] at hp; cases hp))
    (fun α ls k => g71Main (g101 m) ls k)
theorem g71Ok (m : Nat) : RowOk Go.Proofs.Try.prog 71 (fun {α} => rowK g71tp g71bp (g71K (g71 (α := α) m))) := row_of (g71Fn m)

/-! ### g66: spec.l01Of -/
def g66b {α : Type} (G_g71 : {α : Type} → Bool → (List Int) → (Bool → Option α) → Option α)  (p42 : Int) (k68 : Bool → (List Int) → Option α) : Option α :=
  let x43 : Int := IntKind.wrap .u64 p42
  cond (decide (p42 < (0 : Int)))
   (
    let x45 : Int := IntKind.wrap .u64 (0 - x43)
    let l50 : List Int := List.set (List.set [0, 0, 0, 0, 0, 0] 0 (IntKind.wrap .u32 x45)) 1 (IntKind.wrap .u32 (Int.fdiv x45 (2 ^ 32)))
    G_g71 (decide (p42 < (0 : Int))) l50
      (fun b60 =>
        k68 b60 l50))
   (
    let l65 : List Int := List.set (List.set [0, 0, 0, 0, 0, 0] 0 (IntKind.wrap .u32 x43)) 1 (IntKind.wrap .u32 (Int.fdiv x43 (2 ^ 32)))
    G_g71 (decide (p42 < (0 : Int))) l65
      (fun b67 =>
        k68 b67 l65))
def g66 {α : Type} (m : Nat) : Int → (Bool → (List Int) → Option α) → Option α :=
  g66b (g71 m)
def g66tp : List TP := [(.vl (.sv (.int .i64)))]
def g66bp : List BP := []
def g66K {α : Type} (G : Int → (Bool → (List Int) → Option α) → Option α) (ls : List Lf) (k : TV → List (List Seg) → List (List Seg) → Option α) : Option α :=
  G (lf ls 0).int
    (fun y0 y1 => k (.vl (.agg [(.one (.bool y0)), (.seq (.int .u32) 6 y1)])) [] [])
def g66hd (G_g71 : {α : Type} → Bool → (List Int) → (Bool → Option α) → Option α)  : Hd where
  call := fun f args Bs k => cond (Nat.beq f 71) (rowK g71tp g71bp (g71K G_g71) args Bs k) (none)
  loop := fun id st k => none
  ro := fun f => []
def g66h (m : Nat) : Hd := g66hd (g71 m)
theorem g66Main (G_g71 : {α : Type} → Bool → (List Int) → (Bool → Option α) → Option α)  {α : Type} (ls : List Lf) (k : TV → List (List Seg) → List (List Seg) → Option α) :
    g66K (g66b G_g71) ls k = evFun tab (g66hd G_g71) Go.Proofs.Try.f66 (fillT g66tp ls).1 (fillB g66bp (fillT g66tp ls).2).1 k := by kernel_rfl
theorem g66Calls (m : Nat) : (g66h m).CallsOk Go.Proofs.Try.prog := (cok_cons (g71Ok m) cok_nil)
theorem g66Fn (m : Nat) : FnOk Go.Proofs.Try.prog 66 g66tp g66bp (fun {α} => g66K (g66 (α := α) m)) :=
  fn_ok (tab := tab) (h := g66h m) (fn := Go.Proofs.Try.f66) (F := fun {α} => g66K (g66 (α := α) m)) tabOk (g66Calls m) mixed (by kernel_rfl) (by kernel_rfl) (fun c hc => by
    rw [bodyOf_some hc]
    exact loopsOk_of _ (fun p hp => by rw [show loopsOf (bodyOf Go.Proofs.Try.f66) = [] by kernel_rfl] at hp; cases hp))
    (fun α ls k => g66Main (g71 m) ls k)
theorem g66Ok (m : Nat) : RowOk Go.Proofs.Try.prog 66 (fun {α} => rowK g66tp g66bp (g66K (g66 (α := α) m))) := row_of (g66Fn m)

/-! ### g25: spec.WideOf -/
def g25b {α : Type} (G_g66 : {α : Type} → Int → (Bool → (List Int) → Option α) → Option α)  (p41 : Int) (k71 : Bool → (List Int) → Option α) : Option α :=
  G_g66 p41
    (fun b69 l70 =>
      k71 b69 l70)
def g25 {α : Type} (m : Nat) : Int → (Bool → (List Int) → Option α) → Option α :=
  g25b (g66 m)
def g25tp : List TP := [(.vl (.sv (.int .i64)))]
def g25bp : List BP := []
def g25K {α : Type} (G : Int → (Bool → (List Int) → Option α) → Option α) (ls : List Lf) (k : TV → List (List Seg) → List (List Seg) → Option α) : Option α :=
  G (lf ls 0).int
    (fun y0 y1 => k (.vl (.agg [(.one (.bool y0)), (.seq (.int .u32) 6 y1)])) [] [])
def g25hd (G_g66 : {α : Type} → Int → (Bool → (List Int) → Option α) → Option α)  : Hd where
  call := fun f args Bs k => cond (Nat.beq f 66) (rowK g66tp g66bp (g66K G_g66) args Bs k) (none)
  loop := fun id st k => none
  ro := fun f => []
def g25h (m : Nat) : Hd := g25hd (g66 m)
theorem g25Main (G_g66 : {α : Type} → Int → (Bool → (List Int) → Option α) → Option α)  {α : Type} (ls : List Lf) (k : TV → List (List Seg) → List (List Seg) → Option α) :
    g25K (g25b G_g66) ls k = evFun tab (g25hd G_g66) Go.Proofs.Try.f25 (fillT g25tp ls).1 (fillB g25bp (fillT g25tp ls).2).1 k := by kernel_rfl
theorem g25Calls (m : Nat) : (g25h m).CallsOk Go.Proofs.Try.prog := (cok_cons (g66Ok m) cok_nil)
theorem g25Fn (m : Nat) : FnOk Go.Proofs.Try.prog 25 g25tp g25bp (fun {α} => g25K (g25 (α := α) m)) :=
  fn_ok (tab := tab) (h := g25h m) (fn := Go.Proofs.Try.f25) (F := fun {α} => g25K (g25 (α := α) m)) tabOk (g25Calls m) mixed (by kernel_rfl) (by kernel_rfl) (fun c hc => by
    rw [bodyOf_some hc]
    exact loopsOk_of _ (fun p hp => by rw [show loopsOf (bodyOf Go.Proofs.Try.f25) = [] by kernel_rfl] at hp; cases hp))
    (fun α ls k => g25Main (g66 m) ls k)
theorem g25Ok (m : Nat) : RowOk Go.Proofs.Try.prog 25 (fun {α} => rowK g25tp g25bp (g25K (g25 (α := α) m))) := row_of (g25Fn m)

/-! ### g67: impl.wide -/
def g67b {α : Type}   (q82 : Bool) (u83 : List Int) (k85 : Bool → Option α) : Option α :=
  cond q82
   (
    k85 (!(eqLI u83 [0, 0, 0, 0, 0, 0])))
   (
    k85 false)
def g67 {α : Type} (m : Nat) : Bool → (List Int) → (Bool → Option α) → Option α :=
  g67b
def g67tp : List TP := [(.vl (.sv .bool)), (.vl (.agg [(.seq (.int .u32) 6)]))]
def g67bp : List BP := []
def g67K {α : Type} (G : Bool → (List Int) → (Bool → Option α) → Option α) (ls : List Lf) (k : TV → List (List Seg) → List (List Seg) → Option α) : Option α :=
  G (lf ls 0).bool ((lf ls 1).lst (.int .u32))
    (fun y0 => k (.vl (.agg [(.one (.bool y0)), (.seq (.int .u32) 6 ((lf ls 1).lst (.int .u32)))])) [] [])
def g67hd   : Hd where
  call := fun f args Bs k => none
  loop := fun id st k => none
  ro := fun f => []
def g67h (m : Nat) : Hd := g67hd
theorem g67Main   {α : Type} (ls : List Lf) (k : TV → List (List Seg) → List (List Seg) → Option α) :
    g67K (g67b) ls k = evFun tab (g67hd) Go.Proofs.Try.f67 (fillT g67tp ls).1 (fillB g67bp (fillT g67tp ls).2).1 k := by kernel_rfl
theorem g67Calls (m : Nat) : (g67h m).CallsOk Go.Proofs.Try.prog := cok_nil
theorem g67Fn (m : Nat) : FnOk Go.Proofs.Try.prog 67 g67tp g67bp (fun {α} => g67K (g67 (α := α) m)) :=
  fn_ok (tab := tab) (h := g67h m) (fn := Go.Proofs.Try.f67) (F := fun {α} => g67K (g67 (α := α) m)) tabOk (g67Calls m) mixed (by kernel_rfl) (by kernel_rfl) (fun c hc => by
    rw [bodyOf_some hc]
    exact loopsOk_of _ (fun p hp => by rw [show loopsOf (bodyOf Go.Proofs.Try.f67) = [] by kernel_rfl] at hp; cases hp))
    (fun α ls k => g67Main ls k)
theorem g67Ok (m : Nat) : RowOk Go.Proofs.Try.prog 67 (fun {α} => rowK g67tp g67bp (g67K (g67 (α := α) m))) := row_of (g67Fn m)

/-! ### g26: impl.WideOf -/
def g26b {α : Type} (G_g67 : {α : Type} → Bool → (List Int) → (Bool → Option α) → Option α)  (p74 : Int) (k92 : Bool → (List Int) → Option α) : Option α :=
  let x75 : Int := IntKind.wrap .u64 p74
  cond (decide (p74 < (0 : Int)))
   (
    let x77 : Int := IntKind.wrap .u64 (0 - x75)
    let x79 : Int := IntKind.wrap .u32 x77
    let x81 : Int := IntKind.wrap .u32 (Int.fdiv x77 (2 ^ 32))
    G_g67 (decide (p74 < (0 : Int))) [x79, x81, 0, 0, 0, 0]
      (fun b86 =>
        k92 b86 [x79, x81, 0, 0, 0, 0]))
   (
    let x88 : Int := IntKind.wrap .u32 x75
    let x90 : Int := IntKind.wrap .u32 (Int.fdiv x75 (2 ^ 32))
    G_g67 (decide (p74 < (0 : Int))) [x88, x90, 0, 0, 0, 0]
      (fun b91 =>
        k92 b91 [x88, x90, 0, 0, 0, 0]))
def g26 {α : Type} (m : Nat) : Int → (Bool → (List Int) → Option α) → Option α :=
  g26b (g67 m)
def g26tp : List TP := [(.vl (.sv (.int .i64)))]
def g26bp : List BP := []
def g26K {α : Type} (G : Int → (Bool → (List Int) → Option α) → Option α) (ls : List Lf) (k : TV → List (List Seg) → List (List Seg) → Option α) : Option α :=
  G (lf ls 0).int
    (fun y0 y1 => k (.vl (.agg [(.one (.bool y0)), (.seq (.int .u32) 6 y1)])) [] [])
def g26hd (G_g67 : {α : Type} → Bool → (List Int) → (Bool → Option α) → Option α)  : Hd where
  call := fun f args Bs k => cond (Nat.beq f 67) (rowK g67tp g67bp (g67K G_g67) args Bs k) (none)
  loop := fun id st k => none
  ro := fun f => []
def g26h (m : Nat) : Hd := g26hd (g67 m)
theorem g26Main (G_g67 : {α : Type} → Bool → (List Int) → (Bool → Option α) → Option α)  {α : Type} (ls : List Lf) (k : TV → List (List Seg) → List (List Seg) → Option α) :
    g26K (g26b G_g67) ls k = evFun tab (g26hd G_g67) Go.Proofs.Try.f26 (fillT g26tp ls).1 (fillB g26bp (fillT g26tp ls).2).1 k := by kernel_rfl
theorem g26Calls (m : Nat) : (g26h m).CallsOk Go.Proofs.Try.prog := (cok_cons (g67Ok m) cok_nil)
theorem g26Fn (m : Nat) : FnOk Go.Proofs.Try.prog 26 g26tp g26bp (fun {α} => g26K (g26 (α := α) m)) :=
  fn_ok (tab := tab) (h := g26h m) (fn := Go.Proofs.Try.f26) (F := fun {α} => g26K (g26 (α := α) m)) tabOk (g26Calls m) mixed (by kernel_rfl) (by kernel_rfl) (fun c hc => by
    rw [bodyOf_some hc]
    exact loopsOk_of _ (fun p hp => by rw [show loopsOf (bodyOf Go.Proofs.Try.f26) = [] by kernel_rfl] at hp; cases hp))
    (fun α ls k => g26Main (g67 m) ls k)
theorem g26Ok (m : Nat) : RowOk Go.Proofs.Try.prog 26 (fun {α} => rowK g26tp g26bp (g26K (g26 (α := α) m))) := row_of (g26Fn m)

/-! ### g68: laws.eqUint32A6 -/
def g68l0b {α : Type}   (a103 : List Int) (a104 : List Int) (k110 : Option α) (k111 : Option α) (r112 : Int → Option α) (v102 : Int) : Option α :=
  cond (decide (v102 < (6 : Int)))
   (
    if 0 ≤ v102 ∧ v102 < (6 : Nat) then
      if v102.toNat < 6 then
        if 0 ≤ v102 ∧ v102 < (6 : Nat) then
          if v102.toNat < 6 then
            cond ((List.getD a103 v102.toNat 0) != (List.getD a104 v102.toNat 0))
             (
              k110)
             (
              r112 (IntKind.wrap .i64 (v102 + (1 : Int))))
          else
            none
        else
          none
      else
        none
    else
      none)
   (
    k111)
def g68l0 {α : Type}   (a103 : List Int) (a104 : List Int) (k110 : Option α) (k111 : Option α) : Nat → Int → Option α
  | 0 => fun _ => none
  | m + 1 => fun v102 => g68l0b a103 a104 k110 k111 (g68l0 a103 a104 k110 k111 m) v102
def g68l0M {α : Type} (m : Nat) : (List Int) → (List Int) → (Option α) → (Option α) → Int → Option α :=
  fun a103 a104 k110 k111 v102 => g68l0 a103 a104 k110 k111 m v102
def g68l0D : LoopD := { n := 17, sl := [2, 3, 5], bl := [1002, 1003], tp := [(.vl (.sv (.ptr 1002 0))), (.vl (.sv (.ptr 1003 0))), (.vl (.sv (.int .i64)))], bp := [(true, [(.seq (.int .u32) 6)]), (true, [(.seq (.int .u32) 6)])], xs := [(1, [4], []), (2, [], [])] }
def g68l0K {α : Type} (L : (List Int) → (List Int) → (Option α) → (Option α) → Int → Option α) (ls : List Lf) (k : Ex → St → Option α) : Option α :=
  L ((lf ls 1).lst (.int .u32)) ((lf ls 2).lst (.int .u32))
    (k .ret (mkSt 17 [4] [(.vl (.sv (.bool false)))] [] []))
    (k .normal (mkSt 17 [] [] [] []))
    (lf ls 0).int
def g68b {α : Type}  (L_g68l0 : {α : Type} → (List Int) → (List Int) → (Option α) → (Option α) → Int → Option α) (u100 : List Int) (u101 : List Int) (k113 : Bool → Option α) : Option α :=
  L_g68l0 u100 u101
    (
      k113 false)
    (
      k113 true)
    (0 : Int)
def g68 {α : Type} (m : Nat) : (List Int) → (List Int) → (Bool → Option α) → Option α :=
  g68b (g68l0M m)
def g68tp : List TP := [(.vl (.agg [(.seq (.int .u32) 6)])), (.vl (.agg [(.seq (.int .u32) 6)]))]
def g68bp : List BP := []
def g68K {α : Type} (G : (List Int) → (List Int) → (Bool → Option α) → Option α) (ls : List Lf) (k : TV → List (List Seg) → List (List Seg) → Option α) : Option α :=
  G ((lf ls 0).lst (.int .u32)) ((lf ls 1).lst (.int .u32))
    (fun y0 => k (.vl (.sv (.bool y0))) [] [])
def g68hd  (L_g68l0 : {α : Type} → (List Int) → (List Int) → (Option α) → (Option α) → Int → Option α) : Hd where
  call := fun f args Bs k => none
  loop := fun id st k => cond (Nat.beq id 0) (loopH g68l0D (g68l0K L_g68l0) st k) (none)
  ro := fun f => []
def g68h (m : Nat) : Hd := g68hd (g68l0M m)
theorem g68l0Step  (L_g68l0 : {α : Type} → (List Int) → (List Int) → (Option α) → (Option α) → Int → Option α) {α : Type} (L : (List Int) → (List Int) → (Option α) → (Option α) → Int → Option α) (ls : List Lf) (k : Ex → St → Option α) :
    g68l0K (fun a103 a104 k110 k111 v102 => g68l0b a103 a104 k110 k111 (L a103 a104 k110 k111) v102) ls k = ev tab (g68hd L_g68l0) (bodyAt Go.Proofs.Try.f68 0) (atHead g68l0D ls) (loopK g68l0D 0 (loopH g68l0D (g68l0K L)) k) := by kernel_rfl
theorem g68Main  (L_g68l0 : {α : Type} → (List Int) → (List Int) → (Option α) → (Option α) → Int → Option α) {α : Type} (ls : List Lf) (k : TV → List (List Seg) → List (List Seg) → Option α) :
    g68K (g68b L_g68l0) ls k = evFun tab (g68hd L_g68l0) Go.Proofs.Try.f68 (fillT g68tp ls).1 (fillB g68bp (fillT g68tp ls).2).1 k := by kernel_rfl
theorem g68Calls (m : Nat) : (g68h m).CallsOk Go.Proofs.Try.prog := cok_nil
theorem g68l0Ok (m : Nat) (α : Type) (st : St) (k : Ex → St → Option α) (r : α) (h : (g68h m).loop 0 st k = some r) :
    ∃ e st', k e st' = some r ∧ CodeS Go.Proofs.Try.prog (.block 0 (.loop (bodyAt Go.Proofs.Try.f68 0))) st e st' :=
  loop_ok (tab := tab) (h := g68h m) (F := fun n ls k => g68l0K (fun a103 a104 k110 k111 v102 => g68l0 a103 a104 k110 k111 n v102) ls k) tabOk (g68Calls m) mixed (loopsOk_of _ (fun p hp => by rw [show loopsOf (bodyAt Go.Proofs.Try.f68 0) = [] by kernel_rfl] at hp; cases hp))
    (fun _ _ => rfl) (fun n ls k => g68l0Step (g68l0M m) (fun a103 a104 k110 k111 => g68l0 a103 a104 k110 k111 n) ls k) (n := m) h
theorem g68Fn (m : Nat) : FnOk Go.Proofs.Try.prog 68 g68tp g68bp (fun {α} => g68K (g68 (α := α) m)) :=
  fn_ok (tab := tab) (h := g68h m) (fn := Go.Proofs.Try.f68) (F := fun {α} => g68K (g68 (α := α) m)) tabOk (g68Calls m) mixed (by kernel_rfl) (by kernel_rfl) (fun c hc => by
    rw [bodyOf_some hc]
    exact loopsOk_of _ (fun p hp => by
    rw [show loopsOf (bodyOf Go.Proofs.Try.f68) = [(0, bodyAt Go.Proofs.Try.f68 0)] by kernel_rfl] at hp
    simp only [List.mem_cons, List.not_mem_nil, or_false] at hp
    rcases hp with rfl
    exact g68l0Ok m))
    (fun α ls k => g68Main (g68l0M m) ls k)
theorem g68Ok (m : Nat) : RowOk Go.Proofs.Try.prog 68 (fun {α} => rowK g68tp g68bp (g68K (g68 (α := α) m))) := row_of (g68Fn m)

/-! ### g27: laws.eqWide -/
def g27b {α : Type} (G_g68 : {α : Type} → (List Int) → (List Int) → (Bool → Option α) → Option α)  (q95 : Bool) (u96 : List Int) (q97 : Bool) (u98 : List Int) (k116 : Bool → Option α) : Option α :=
  cond (!(q95 == q97))
   (
    k116 false)
   (
    G_g68 u96 u98
      (fun b114 =>
        cond (!b114)
         (
          k116 false)
         (
          k116 true)))
def g27 {α : Type} (m : Nat) : Bool → (List Int) → Bool → (List Int) → (Bool → Option α) → Option α :=
  g27b (g68 m)
def g27tp : List TP := [(.vl (.agg [(.one .bool), (.seq (.int .u32) 6)])), (.vl (.agg [(.one .bool), (.seq (.int .u32) 6)]))]
def g27bp : List BP := []
def g27K {α : Type} (G : Bool → (List Int) → Bool → (List Int) → (Bool → Option α) → Option α) (ls : List Lf) (k : TV → List (List Seg) → List (List Seg) → Option α) : Option α :=
  G (lf ls 0).bool ((lf ls 1).lst (.int .u32)) (lf ls 2).bool ((lf ls 3).lst (.int .u32))
    (fun y0 => k (.vl (.sv (.bool y0))) [] [])
def g27hd (G_g68 : {α : Type} → (List Int) → (List Int) → (Bool → Option α) → Option α)  : Hd where
  call := fun f args Bs k => cond (Nat.beq f 68) (rowK g68tp g68bp (g68K G_g68) args Bs k) (none)
  loop := fun id st k => none
  ro := fun f => []
def g27h (m : Nat) : Hd := g27hd (g68 m)
theorem g27Main (G_g68 : {α : Type} → (List Int) → (List Int) → (Bool → Option α) → Option α)  {α : Type} (ls : List Lf) (k : TV → List (List Seg) → List (List Seg) → Option α) :
    g27K (g27b G_g68) ls k = evFun tab (g27hd G_g68) Go.Proofs.Try.f27 (fillT g27tp ls).1 (fillB g27bp (fillT g27tp ls).2).1 k := by kernel_rfl
theorem g27Calls (m : Nat) : (g27h m).CallsOk Go.Proofs.Try.prog := (cok_cons (g68Ok m) cok_nil)
theorem g27Fn (m : Nat) : FnOk Go.Proofs.Try.prog 27 g27tp g27bp (fun {α} => g27K (g27 (α := α) m)) :=
  fn_ok (tab := tab) (h := g27h m) (fn := Go.Proofs.Try.f27) (F := fun {α} => g27K (g27 (α := α) m)) tabOk (g27Calls m) mixed (by kernel_rfl) (by kernel_rfl) (fun c hc => by
    rw [bodyOf_some hc]
    exact loopsOk_of _ (fun p hp => by rw [show loopsOf (bodyOf Go.Proofs.Try.f27) = [] by kernel_rfl] at hp; cases hp))
    (fun α ls k => g27Main (g68 m) ls k)
theorem g27Ok (m : Nat) : RowOk Go.Proofs.Try.prog 27 (fun {α} => rowK g27tp g27bp (g27K (g27 (α := α) m))) := row_of (g27Fn m)

/-! ### g4: laws.FnExactWideOf -/
def g4b {α : Type} (G_g25 : {α : Type} → Int → (Bool → (List Int) → Option α) → Option α) (G_g26 : {α : Type} → Int → (Bool → (List Int) → Option α) → Option α) (G_g27 : {α : Type} → Bool → (List Int) → Bool → (List Int) → (Bool → Option α) → Option α)  (p40 : Int) (k119 : Bool → Option α) : Option α :=
  G_g25 p40
    (fun b72 l73 =>
      G_g26 p40
        (fun b93 l94 =>
          G_g27 b93 l94 b72 l73
            (fun b117 =>
              cond (!b117)
               (
                k119 false)
               (
                k119 true))))
def g4 {α : Type} (m : Nat) : Int → (Bool → Option α) → Option α :=
  g4b (g25 m) (g26 m) (g27 m)
def g4tp : List TP := [(.vl (.sv (.int .i64)))]
def g4bp : List BP := []
def g4K {α : Type} (G : Int → (Bool → Option α) → Option α) (ls : List Lf) (k : TV → List (List Seg) → List (List Seg) → Option α) : Option α :=
  G (lf ls 0).int
    (fun y0 => k (.vl (.sv (.bool y0))) [] [])
def g4hd (G_g25 : {α : Type} → Int → (Bool → (List Int) → Option α) → Option α) (G_g26 : {α : Type} → Int → (Bool → (List Int) → Option α) → Option α) (G_g27 : {α : Type} → Bool → (List Int) → Bool → (List Int) → (Bool → Option α) → Option α)  : Hd where
  call := fun f args Bs k => cond (Nat.beq f 25) (rowK g25tp g25bp (g25K G_g25) args Bs k) (cond (Nat.beq f 26) (rowK g26tp g26bp (g26K G_g26) args Bs k) (cond (Nat.beq f 27) (rowK g27tp g27bp (g27K G_g27) args Bs k) (none)))
  loop := fun id st k => none
  ro := fun f => []
def g4h (m : Nat) : Hd := g4hd (g25 m) (g26 m) (g27 m)
theorem g4Main (G_g25 : {α : Type} → Int → (Bool → (List Int) → Option α) → Option α) (G_g26 : {α : Type} → Int → (Bool → (List Int) → Option α) → Option α) (G_g27 : {α : Type} → Bool → (List Int) → Bool → (List Int) → (Bool → Option α) → Option α)  {α : Type} (ls : List Lf) (k : TV → List (List Seg) → List (List Seg) → Option α) :
    g4K (g4b G_g25 G_g26 G_g27) ls k = evFun tab (g4hd G_g25 G_g26 G_g27) Go.Proofs.Try.f4 (fillT g4tp ls).1 (fillB g4bp (fillT g4tp ls).2).1 k := by kernel_rfl
theorem g4Calls (m : Nat) : (g4h m).CallsOk Go.Proofs.Try.prog := (cok_cons (g25Ok m) (cok_cons (g26Ok m) (cok_cons (g27Ok m) cok_nil)))
theorem g4Fn (m : Nat) : FnOk Go.Proofs.Try.prog 4 g4tp g4bp (fun {α} => g4K (g4 (α := α) m)) :=
  fn_ok (tab := tab) (h := g4h m) (fn := Go.Proofs.Try.f4) (F := fun {α} => g4K (g4 (α := α) m)) tabOk (g4Calls m) mixed (by kernel_rfl) (by kernel_rfl) (fun c hc => by
    rw [bodyOf_some hc]
    exact loopsOk_of _ (fun p hp => by rw [show loopsOf (bodyOf Go.Proofs.Try.f4) = [] by kernel_rfl] at hp; cases hp))
    (fun α ls k => g4Main (g25 m) (g26 m) (g27 m) ls k)
theorem g4Ok (m : Nat) : RowOk Go.Proofs.Try.prog 4 (fun {α} => rowK g4tp g4bp (g4K (g4 (α := α) m))) := row_of (g4Fn m)

/-! ### g76: spec.l01Sign -/
def g76b {α : Type}   (q127 : Bool) (u128 : List Int) (k130 : Int → Option α) : Option α :=
  cond q127
   (
    k130 (-1 : Int))
   (
    cond (eqLI u128 [0, 0, 0, 0, 0, 0])
     (
      k130 (0 : Int))
     (
      k130 (1 : Int)))
def g76 {α : Type} (m : Nat) : Bool → (List Int) → (Int → Option α) → Option α :=
  g76b
def g76tp : List TP := [(.vl (.sv (.ptr 0 0)))]
def g76bp : List BP := [(false, [(.one .bool), (.seq (.int .u32) 6)])]
def g76K {α : Type} (G : Bool → (List Int) → (Int → Option α) → Option α) (ls : List Lf) (k : TV → List (List Seg) → List (List Seg) → Option α) : Option α :=
  G (lf ls 0).bool ((lf ls 1).lst (.int .u32))
    (fun y0 => k (.vl (.sv (.int .i64 y0))) [[(.one (.bool (lf ls 0).bool)), (.seq (.int .u32) 6 ((lf ls 1).lst (.int .u32)))]] [])
def g76hd   : Hd where
  call := fun f args Bs k => none
  loop := fun id st k => none
  ro := fun f => []
def g76h (m : Nat) : Hd := g76hd
theorem g76Main   {α : Type} (ls : List Lf) (k : TV → List (List Seg) → List (List Seg) → Option α) :
    g76K (g76b) ls k = evFun tab (g76hd) Go.Proofs.Try.f76 (fillT g76tp ls).1 (fillB g76bp (fillT g76tp ls).2).1 k := by kernel_rfl
theorem g76Calls (m : Nat) : (g76h m).CallsOk Go.Proofs.Try.prog := cok_nil
theorem g76Fn (m : Nat) : FnOk Go.Proofs.Try.prog 76 g76tp g76bp (fun {α} => g76K (g76 (α := α) m)) :=
  fn_ok (tab := tab) (h := g76h m) (fn := Go.Proofs.Try.f76) (F := fun {α} => g76K (g76 (α := α) m)) tabOk (g76Calls m) mixed (by kernel_rfl) (by kernel_rfl) (fun c hc => by
    rw [bodyOf_some hc]
    exact loopsOk_of _ (fun p hp => by rw [show loopsOf (bodyOf Go.Proofs.Try.f76) = [] by kernel_rfl] at hp; cases hp))
    (fun α ls k => g76Main ls k)
theorem g76Ok (m : Nat) : RowOk Go.Proofs.Try.prog 76 (fun {α} => rowK g76tp g76bp (g76K (g76 (α := α) m))) := row_of (g76Fn m)

/-! ### g47: spec.SignOf -/
def g47b {α : Type} (G_g64 : {α : Type} → Bool → (List Int) → (Bool → Option α) → Option α) (G_g76 : {α : Type} → Bool → (List Int) → (Int → Option α) → Option α)  (q123 : Bool) (u124 : List Int) (k132 : Int → Int → Option α) : Option α :=
  G_g64 q123 u124
    (fun b125 =>
      cond (!b125)
       (
        k132 (0 : Int) (1 : Int))
       (
        G_g76 q123 u124
          (fun x131 =>
            k132 x131 (0 : Int))))
def g47 {α : Type} (m : Nat) : Bool → (List Int) → (Int → Int → Option α) → Option α :=
  g47b (g64 m) (g76 m)
def g47tp : List TP := [(.vl (.agg [(.one .bool), (.seq (.int .u32) 6)]))]
def g47bp : List BP := []
def g47K {α : Type} (G : Bool → (List Int) → (Int → Int → Option α) → Option α) (ls : List Lf) (k : TV → List (List Seg) → List (List Seg) → Option α) : Option α :=
  G (lf ls 0).bool ((lf ls 1).lst (.int .u32))
    (fun y0 y1 => k (.tup [(.sv (.int .i64 y0)), (.sv (.int .i64 y1))]) [] [])
def g47hd (G_g64 : {α : Type} → Bool → (List Int) → (Bool → Option α) → Option α) (G_g76 : {α : Type} → Bool → (List Int) → (Int → Option α) → Option α)  : Hd where
  call := fun f args Bs k => cond (Nat.beq f 64) (rowK g64tp g64bp (g64K G_g64) args Bs k) (cond (Nat.beq f 76) (rowK g76tp g76bp (g76K G_g76) args Bs k) (none))
  loop := fun id st k => none
  ro := fun f => cond (Nat.beq f 64) [0] (cond (Nat.beq f 76) [0] ([]))
def g47h (m : Nat) : Hd := g47hd (g64 m) (g76 m)
theorem g47Main (G_g64 : {α : Type} → Bool → (List Int) → (Bool → Option α) → Option α) (G_g76 : {α : Type} → Bool → (List Int) → (Int → Option α) → Option α)  {α : Type} (ls : List Lf) (k : TV → List (List Seg) → List (List Seg) → Option α) :
    g47K (g47b G_g64 G_g76) ls k = evFun tab (g47hd G_g64 G_g76) Go.Proofs.Try.f47 (fillT g47tp ls).1 (fillB g47bp (fillT g47tp ls).2).1 k := by kernel_rfl
theorem g47Calls (m : Nat) : (g47h m).CallsOk Go.Proofs.Try.prog := (cok_cons (g64Ok m) (cok_cons (g76Ok m) cok_nil))
theorem g47Fn (m : Nat) : FnOk Go.Proofs.Try.prog 47 g47tp g47bp (fun {α} => g47K (g47 (α := α) m)) :=
  fn_ok (tab := tab) (h := g47h m) (fn := Go.Proofs.Try.f47) (F := fun {α} => g47K (g47 (α := α) m)) tabOk (g47Calls m) mixed (by kernel_rfl) (by kernel_rfl) (fun c hc => by
    rw [bodyOf_some hc]
    exact loopsOk_of _ (fun p hp => by rw [show loopsOf (bodyOf Go.Proofs.Try.f47) = [] by kernel_rfl] at hp; cases hp))
    (fun α ls k => g47Main (g64 m) (g76 m) ls k)
theorem g47Ok (m : Nat) : RowOk Go.Proofs.Try.prog 47 (fun {α} => rowK g47tp g47bp (g47K (g47 (α := α) m))) := row_of (g47Fn m)

/-! ### g72: impl.sign -/
def g72b {α : Type}   (q140 : Bool) (u141 : List Int) (k143 : Int → Option α) : Option α :=
  cond q140
   (
    k143 (-1 : Int))
   (
    cond (eqLI u141 [0, 0, 0, 0, 0, 0])
     (
      k143 (0 : Int))
     (
      k143 (1 : Int)))
def g72 {α : Type} (m : Nat) : Bool → (List Int) → (Int → Option α) → Option α :=
  g72b
def g72tp : List TP := [(.vl (.agg [(.one .bool), (.seq (.int .u32) 6)]))]
def g72bp : List BP := []
def g72K {α : Type} (G : Bool → (List Int) → (Int → Option α) → Option α) (ls : List Lf) (k : TV → List (List Seg) → List (List Seg) → Option α) : Option α :=
  G (lf ls 0).bool ((lf ls 1).lst (.int .u32))
    (fun y0 => k (.vl (.sv (.int .i64 y0))) [] [])
def g72hd   : Hd where
  call := fun f args Bs k => none
  loop := fun id st k => none
  ro := fun f => []
def g72h (m : Nat) : Hd := g72hd
theorem g72Main   {α : Type} (ls : List Lf) (k : TV → List (List Seg) → List (List Seg) → Option α) :
    g72K (g72b) ls k = evFun tab (g72hd) Go.Proofs.Try.f72 (fillT g72tp ls).1 (fillB g72bp (fillT g72tp ls).2).1 k := by kernel_rfl
theorem g72Calls (m : Nat) : (g72h m).CallsOk Go.Proofs.Try.prog := cok_nil
theorem g72Fn (m : Nat) : FnOk Go.Proofs.Try.prog 72 g72tp g72bp (fun {α} => g72K (g72 (α := α) m)) :=
  fn_ok (tab := tab) (h := g72h m) (fn := Go.Proofs.Try.f72) (F := fun {α} => g72K (g72 (α := α) m)) tabOk (g72Calls m) mixed (by kernel_rfl) (by kernel_rfl) (fun c hc => by
    rw [bodyOf_some hc]
    exact loopsOk_of _ (fun p hp => by rw [show loopsOf (bodyOf Go.Proofs.Try.f72) = [] by kernel_rfl] at hp; cases hp))
    (fun α ls k => g72Main ls k)
theorem g72Ok (m : Nat) : RowOk Go.Proofs.Try.prog 72 (fun {α} => rowK g72tp g72bp (g72K (g72 (α := α) m))) := row_of (g72Fn m)

/-! ### g48: impl.SignOf -/
def g48b {α : Type} (G_g24 : {α : Type} → Bool → (List Int) → (Bool → Option α) → Option α) (G_g72 : {α : Type} → Bool → (List Int) → (Int → Option α) → Option α)  (q136 : Bool) (u137 : List Int) (k145 : Int → Int → Option α) : Option α :=
  G_g24 q136 u137
    (fun b138 =>
      cond (!b138)
       (
        k145 (0 : Int) (1 : Int))
       (
        G_g72 q136 u137
          (fun x144 =>
            k145 x144 (0 : Int))))
def g48 {α : Type} (m : Nat) : Bool → (List Int) → (Int → Int → Option α) → Option α :=
  g48b (g24 m) (g72 m)
def g48tp : List TP := [(.vl (.agg [(.one .bool), (.seq (.int .u32) 6)]))]
def g48bp : List BP := []
def g48K {α : Type} (G : Bool → (List Int) → (Int → Int → Option α) → Option α) (ls : List Lf) (k : TV → List (List Seg) → List (List Seg) → Option α) : Option α :=
  G (lf ls 0).bool ((lf ls 1).lst (.int .u32))
    (fun y0 y1 => k (.tup [(.sv (.int .i64 y0)), (.sv (.int .i64 y1))]) [] [])
def g48hd (G_g24 : {α : Type} → Bool → (List Int) → (Bool → Option α) → Option α) (G_g72 : {α : Type} → Bool → (List Int) → (Int → Option α) → Option α)  : Hd where
  call := fun f args Bs k => cond (Nat.beq f 24) (rowK g24tp g24bp (g24K G_g24) args Bs k) (cond (Nat.beq f 72) (rowK g72tp g72bp (g72K G_g72) args Bs k) (none))
  loop := fun id st k => none
  ro := fun f => []
def g48h (m : Nat) : Hd := g48hd (g24 m) (g72 m)
theorem g48Main (G_g24 : {α : Type} → Bool → (List Int) → (Bool → Option α) → Option α) (G_g72 : {α : Type} → Bool → (List Int) → (Int → Option α) → Option α)  {α : Type} (ls : List Lf) (k : TV → List (List Seg) → List (List Seg) → Option α) :
    g48K (g48b G_g24 G_g72) ls k = evFun tab (g48hd G_g24 G_g72) Go.Proofs.Try.f48 (fillT g48tp ls).1 (fillB g48bp (fillT g48tp ls).2).1 k := by kernel_rfl
theorem g48Calls (m : Nat) : (g48h m).CallsOk Go.Proofs.Try.prog := (cok_cons (g24Ok m) (cok_cons (g72Ok m) cok_nil))
theorem g48Fn (m : Nat) : FnOk Go.Proofs.Try.prog 48 g48tp g48bp (fun {α} => g48K (g48 (α := α) m)) :=
  fn_ok (tab := tab) (h := g48h m) (fn := Go.Proofs.Try.f48) (F := fun {α} => g48K (g48 (α := α) m)) tabOk (g48Calls m) mixed (by kernel_rfl) (by kernel_rfl) (fun c hc => by
    rw [bodyOf_some hc]
    exact loopsOk_of _ (fun p hp => by rw [show loopsOf (bodyOf Go.Proofs.Try.f48) = [] by kernel_rfl] at hp; cases hp))
    (fun α ls k => g48Main (g24 m) (g72 m) ls k)
theorem g48Ok (m : Nat) : RowOk Go.Proofs.Try.prog 48 (fun {α} => rowK g48tp g48bp (g48K (g48 (α := α) m))) := row_of (g48Fn m)

/-! ### g6: laws.FnExactSignOf -/
def g6b {α : Type} (G_g23 : {α : Type} → Bool → (List Int) → ((List Int) → Option α) → Option α) (G_g47 : {α : Type} → Bool → (List Int) → (Int → Int → Option α) → Option α) (G_g48 : {α : Type} → Bool → (List Int) → (Int → Int → Option α) → Option α)  (q120 : Bool) (u121 : List Int) (k150 : Bool → Option α) : Option α :=
  G_g23 q120 u121
    (fun l122 =>
      G_g47 q120 l122
        (fun x133 x134 =>
          G_g23 q120 u121
            (fun l135 =>
              G_g48 q120 l135
                (fun x146 x147 =>
                  cond (x146 != x133)
                   (
                    k150 false)
                   (
                    cond (x147 != x134)
                     (
                      k150 false)
                     (
                      k150 true))))))
def g6 {α : Type} (m : Nat) : Bool → (List Int) → (Bool → Option α) → Option α :=
  g6b (g23 m) (g47 m) (g48 m)
def g6tp : List TP := [(.vl (.agg [(.one .bool), (.seq (.int .u32) 6)]))]
def g6bp : List BP := []
def g6K {α : Type} (G : Bool → (List Int) → (Bool → Option α) → Option α) (ls : List Lf) (k : TV → List (List Seg) → List (List Seg) → Option α) : Option α :=
  G (lf ls 0).bool ((lf ls 1).lst (.int .u32))
    (fun y0 => k (.vl (.sv (.bool y0))) [] [])
def g6hd (G_g23 : {α : Type} → Bool → (List Int) → ((List Int) → Option α) → Option α) (G_g47 : {α : Type} → Bool → (List Int) → (Int → Int → Option α) → Option α) (G_g48 : {α : Type} → Bool → (List Int) → (Int → Int → Option α) → Option α)  : Hd where
  call := fun f args Bs k => cond (Nat.beq f 23) (rowK g23tp g23bp (g23K G_g23) args Bs k) (cond (Nat.beq f 47) (rowK g47tp g47bp (g47K G_g47) args Bs k) (cond (Nat.beq f 48) (rowK g48tp g48bp (g48K G_g48) args Bs k) (none)))
  loop := fun id st k => none
  ro := fun f => []
def g6h (m : Nat) : Hd := g6hd (g23 m) (g47 m) (g48 m)
theorem g6Main (G_g23 : {α : Type} → Bool → (List Int) → ((List Int) → Option α) → Option α) (G_g47 : {α : Type} → Bool → (List Int) → (Int → Int → Option α) → Option α) (G_g48 : {α : Type} → Bool → (List Int) → (Int → Int → Option α) → Option α)  {α : Type} (ls : List Lf) (k : TV → List (List Seg) → List (List Seg) → Option α) :
    g6K (g6b G_g23 G_g47 G_g48) ls k = evFun tab (g6hd G_g23 G_g47 G_g48) Go.Proofs.Try.f6 (fillT g6tp ls).1 (fillB g6bp (fillT g6tp ls).2).1 k := by kernel_rfl
theorem g6Calls (m : Nat) : (g6h m).CallsOk Go.Proofs.Try.prog := (cok_cons (g23Ok m) (cok_cons (g47Ok m) (cok_cons (g48Ok m) cok_nil)))
theorem g6Fn (m : Nat) : FnOk Go.Proofs.Try.prog 6 g6tp g6bp (fun {α} => g6K (g6 (α := α) m)) :=
  fn_ok (tab := tab) (h := g6h m) (fn := Go.Proofs.Try.f6) (F := fun {α} => g6K (g6 (α := α) m)) tabOk (g6Calls m) mixed (by kernel_rfl) (by kernel_rfl) (fun c hc => by
    rw [bodyOf_some hc]
    exact loopsOk_of _ (fun p hp => by rw [show loopsOf (bodyOf Go.Proofs.Try.f6) = [] by kernel_rfl] at hp; cases hp))
    (fun α ls k => g6Main (g23 m) (g47 m) (g48 m) ls k)
theorem g6Ok (m : Nat) : RowOk Go.Proofs.Try.prog 6 (fun {α} => rowK g6tp g6bp (g6K (g6 (α := α) m))) := row_of (g6Fn m)

/-! ### g91: spec.l01Neg -/
def g91b {α : Type} (G_g71 : {α : Type} → Bool → (List Int) → (Bool → Option α) → Option α)  (q158 : Bool) (u159 : List Int) (k162 : Bool → Option α) : Option α :=
  G_g71 (!q158) u159
    (fun b161 =>
      k162 b161)
def g91 {α : Type} (m : Nat) : Bool → (List Int) → (Bool → Option α) → Option α :=
  g91b (g71 m)
def g91tp : List TP := [(.vl (.agg [(.one .bool), (.seq (.int .u32) 6)]))]
def g91bp : List BP := []
def g91K {α : Type} (G : Bool → (List Int) → (Bool → Option α) → Option α) (ls : List Lf) (k : TV → List (List Seg) → List (List Seg) → Option α) : Option α :=
  G (lf ls 0).bool ((lf ls 1).lst (.int .u32))
    (fun y0 => k (.vl (.agg [(.one (.bool y0)), (.seq (.int .u32) 6 ((lf ls 1).lst (.int .u32)))])) [] [])
def g91hd (G_g71 : {α : Type} → Bool → (List Int) → (Bool → Option α) → Option α)  : Hd where
  call := fun f args Bs k => cond (Nat.beq f 71) (rowK g71tp g71bp (g71K G_g71) args Bs k) (none)
  loop := fun id st k => none
  ro := fun f => []
def g91h (m : Nat) : Hd := g91hd (g71 m)
theorem g91Main (G_g71 : {α : Type} → Bool → (List Int) → (Bool → Option α) → Option α)  {α : Type} (ls : List Lf) (k : TV → List (List Seg) → List (List Seg) → Option α) :
    g91K (g91b G_g71) ls k = evFun tab (g91hd G_g71) Go.Proofs.Try.f91 (fillT g91tp ls).1 (fillB g91bp (fillT g91tp ls).2).1 k := by kernel_rfl
theorem g91Calls (m : Nat) : (g91h m).CallsOk Go.Proofs.Try.prog := (cok_cons (g71Ok m) cok_nil)
theorem g91Fn (m : Nat) : FnOk Go.Proofs.Try.prog 91 g91tp g91bp (fun {α} => g91K (g91 (α := α) m)) :=
  fn_ok (tab := tab) (h := g91h m) (fn := Go.Proofs.Try.f91) (F := fun {α} => g91K (g91 (α := α) m)) tabOk (g91Calls m) mixed (by kernel_rfl) (by kernel_rfl) (fun c hc => by
    rw [bodyOf_some hc]
    exact loopsOk_of _ (fun p hp => by rw [show loopsOf (bodyOf Go.Proofs.Try.f91) = [] by kernel_rfl] at hp; cases hp))
    (fun α ls k => g91Main (g71 m) ls k)
theorem g91Ok (m : Nat) : RowOk Go.Proofs.Try.prog 91 (fun {α} => rowK g91tp g91bp (g91K (g91 (α := α) m))) := row_of (g91Fn m)

/-! ### g49: spec.NegWide -/
def g49b {α : Type} (G_g64 : {α : Type} → Bool → (List Int) → (Bool → Option α) → Option α) (G_g91 : {α : Type} → Bool → (List Int) → (Bool → Option α) → Option α)  (q154 : Bool) (u155 : List Int) (k164 : Bool → (List Int) → Int → Option α) : Option α :=
  G_g64 q154 u155
    (fun b156 =>
      cond (!b156)
       (
        k164 false [0, 0, 0, 0, 0, 0] (1 : Int))
       (
        G_g91 q154 u155
          (fun b163 =>
            k164 b163 u155 (0 : Int))))
def g49 {α : Type} (m : Nat) : Bool → (List Int) → (Bool → (List Int) → Int → Option α) → Option α :=
  g49b (g64 m) (g91 m)
def g49tp : List TP := [(.vl (.agg [(.one .bool), (.seq (.int .u32) 6)]))]
def g49bp : List BP := []
def g49K {α : Type} (G : Bool → (List Int) → (Bool → (List Int) → Int → Option α) → Option α) (ls : List Lf) (k : TV → List (List Seg) → List (List Seg) → Option α) : Option α :=
  G (lf ls 0).bool ((lf ls 1).lst (.int .u32))
    (fun y0 y1 y2 => k (.tup [(.agg [(.one (.bool y0)), (.seq (.int .u32) 6 y1)]), (.sv (.int .i64 y2))]) [] [])
def g49hd (G_g64 : {α : Type} → Bool → (List Int) → (Bool → Option α) → Option α) (G_g91 : {α : Type} → Bool → (List Int) → (Bool → Option α) → Option α)  : Hd where
  call := fun f args Bs k => cond (Nat.beq f 64) (rowK g64tp g64bp (g64K G_g64) args Bs k) (cond (Nat.beq f 91) (rowK g91tp g91bp (g91K G_g91) args Bs k) (none))
  loop := fun id st k => none
  ro := fun f => cond (Nat.beq f 64) [0] ([])
def g49h (m : Nat) : Hd := g49hd (g64 m) (g91 m)
theorem g49Main (G_g64 : {α : Type} → Bool → (List Int) → (Bool → Option α) → Option α) (G_g91 : {α : Type} → Bool → (List Int) → (Bool → Option α) → Option α)  {α : Type} (ls : List Lf) (k : TV → List (List Seg) → List (List Seg) → Option α) :
    g49K (g49b G_g64 G_g91) ls k = evFun tab (g49hd G_g64 G_g91) Go.Proofs.Try.f49 (fillT g49tp ls).1 (fillB g49bp (fillT g49tp ls).2).1 k := by kernel_rfl
theorem g49Calls (m : Nat) : (g49h m).CallsOk Go.Proofs.Try.prog := (cok_cons (g64Ok m) (cok_cons (g91Ok m) cok_nil))
theorem g49Fn (m : Nat) : FnOk Go.Proofs.Try.prog 49 g49tp g49bp (fun {α} => g49K (g49 (α := α) m)) :=
  fn_ok (tab := tab) (h := g49h m) (fn := Go.Proofs.Try.f49) (F := fun {α} => g49K (g49 (α := α) m)) tabOk (g49Calls m) mixed (by kernel_rfl) (by kernel_rfl) (fun c hc => by
    rw [bodyOf_some hc]
    exact loopsOk_of _ (fun p hp => by rw [show loopsOf (bodyOf Go.Proofs.Try.f49) = [] by kernel_rfl] at hp; cases hp))
    (fun α ls k => g49Main (g64 m) (g91 m) ls k)
theorem g49Ok (m : Nat) : RowOk Go.Proofs.Try.prog 49 (fun {α} => rowK g49tp g49bp (g49K (g49 (α := α) m))) := row_of (g49Fn m)

/-! ### g92: impl.opposite -/
def g92b {α : Type} (G_g67 : {α : Type} → Bool → (List Int) → (Bool → Option α) → Option α)  (q173 : Bool) (u174 : List Int) (k177 : Bool → Option α) : Option α :=
  G_g67 (!q173) u174
    (fun b176 =>
      k177 b176)
def g92 {α : Type} (m : Nat) : Bool → (List Int) → (Bool → Option α) → Option α :=
  g92b (g67 m)
def g92tp : List TP := [(.vl (.agg [(.one .bool), (.seq (.int .u32) 6)]))]
def g92bp : List BP := []
def g92K {α : Type} (G : Bool → (List Int) → (Bool → Option α) → Option α) (ls : List Lf) (k : TV → List (List Seg) → List (List Seg) → Option α) : Option α :=
  G (lf ls 0).bool ((lf ls 1).lst (.int .u32))
    (fun y0 => k (.vl (.agg [(.one (.bool y0)), (.seq (.int .u32) 6 ((lf ls 1).lst (.int .u32)))])) [] [])
def g92hd (G_g67 : {α : Type} → Bool → (List Int) → (Bool → Option α) → Option α)  : Hd where
  call := fun f args Bs k => cond (Nat.beq f 67) (rowK g67tp g67bp (g67K G_g67) args Bs k) (none)
  loop := fun id st k => none
  ro := fun f => []
def g92h (m : Nat) : Hd := g92hd (g67 m)
theorem g92Main (G_g67 : {α : Type} → Bool → (List Int) → (Bool → Option α) → Option α)  {α : Type} (ls : List Lf) (k : TV → List (List Seg) → List (List Seg) → Option α) :
    g92K (g92b G_g67) ls k = evFun tab (g92hd G_g67) Go.Proofs.Try.f92 (fillT g92tp ls).1 (fillB g92bp (fillT g92tp ls).2).1 k := by kernel_rfl
theorem g92Calls (m : Nat) : (g92h m).CallsOk Go.Proofs.Try.prog := (cok_cons (g67Ok m) cok_nil)
theorem g92Fn (m : Nat) : FnOk Go.Proofs.Try.prog 92 g92tp g92bp (fun {α} => g92K (g92 (α := α) m)) :=
  fn_ok (tab := tab) (h := g92h m) (fn := Go.Proofs.Try.f92) (F := fun {α} => g92K (g92 (α := α) m)) tabOk (g92Calls m) mixed (by kernel_rfl) (by kernel_rfl) (fun c hc => by
    rw [bodyOf_some hc]
    exact loopsOk_of _ (fun p hp => by rw [show loopsOf (bodyOf Go.Proofs.Try.f92) = [] by kernel_rfl] at hp; cases hp))
    (fun α ls k => g92Main (g67 m) ls k)
theorem g92Ok (m : Nat) : RowOk Go.Proofs.Try.prog 92 (fun {α} => rowK g92tp g92bp (g92K (g92 (α := α) m))) := row_of (g92Fn m)

/-! ### g50: impl.NegWide -/
def g50b {α : Type} (G_g24 : {α : Type} → Bool → (List Int) → (Bool → Option α) → Option α) (G_g92 : {α : Type} → Bool → (List Int) → (Bool → Option α) → Option α)  (q169 : Bool) (u170 : List Int) (k179 : Bool → (List Int) → Int → Option α) : Option α :=
  G_g24 q169 u170
    (fun b171 =>
      cond (!b171)
       (
        k179 false [0, 0, 0, 0, 0, 0] (1 : Int))
       (
        G_g92 q169 u170
          (fun b178 =>
            k179 b178 u170 (0 : Int))))
def g50 {α : Type} (m : Nat) : Bool → (List Int) → (Bool → (List Int) → Int → Option α) → Option α :=
  g50b (g24 m) (g92 m)
def g50tp : List TP := [(.vl (.agg [(.one .bool), (.seq (.int .u32) 6)]))]
def g50bp : List BP := []
def g50K {α : Type} (G : Bool → (List Int) → (Bool → (List Int) → Int → Option α) → Option α) (ls : List Lf) (k : TV → List (List Seg) → List (List Seg) → Option α) : Option α :=
  G (lf ls 0).bool ((lf ls 1).lst (.int .u32))
    (fun y0 y1 y2 => k (.tup [(.agg [(.one (.bool y0)), (.seq (.int .u32) 6 y1)]), (.sv (.int .i64 y2))]) [] [])
def g50hd (G_g24 : {α : Type} → Bool → (List Int) → (Bool → Option α) → Option α) (G_g92 : {α : Type} → Bool → (List Int) → (Bool → Option α) → Option α)  : Hd where
  call := fun f args Bs k => cond (Nat.beq f 24) (rowK g24tp g24bp (g24K G_g24) args Bs k) (cond (Nat.beq f 92) (rowK g92tp g92bp (g92K G_g92) args Bs k) (none))
  loop := fun id st k => none
  ro := fun f => []
def g50h (m : Nat) : Hd := g50hd (g24 m) (g92 m)
theorem g50Main (G_g24 : {α : Type} → Bool → (List Int) → (Bool → Option α) → Option α) (G_g92 : {α : Type} → Bool → (List Int) → (Bool → Option α) → Option α)  {α : Type} (ls : List Lf) (k : TV → List (List Seg) → List (List Seg) → Option α) :
    g50K (g50b G_g24 G_g92) ls k = evFun tab (g50hd G_g24 G_g92) Go.Proofs.Try.f50 (fillT g50tp ls).1 (fillB g50bp (fillT g50tp ls).2).1 k := by kernel_rfl
theorem g50Calls (m : Nat) : (g50h m).CallsOk Go.Proofs.Try.prog := (cok_cons (g24Ok m) (cok_cons (g92Ok m) cok_nil))
theorem g50Fn (m : Nat) : FnOk Go.Proofs.Try.prog 50 g50tp g50bp (fun {α} => g50K (g50 (α := α) m)) :=
  fn_ok (tab := tab) (h := g50h m) (fn := Go.Proofs.Try.f50) (F := fun {α} => g50K (g50 (α := α) m)) tabOk (g50Calls m) mixed (by kernel_rfl) (by kernel_rfl) (fun c hc => by
    rw [bodyOf_some hc]
    exact loopsOk_of _ (fun p hp => by rw [show loopsOf (bodyOf Go.Proofs.Try.f50) = [] by kernel_rfl] at hp; cases hp))
    (fun α ls k => g50Main (g24 m) (g92 m) ls k)
theorem g50Ok (m : Nat) : RowOk Go.Proofs.Try.prog 50 (fun {α} => rowK g50tp g50bp (g50K (g50 (α := α) m))) := row_of (g50Fn m)

/-! ### g7: laws.FnExactNegWide -/
def g7b {α : Type} (G_g23 : {α : Type} → Bool → (List Int) → ((List Int) → Option α) → Option α) (G_g49 : {α : Type} → Bool → (List Int) → (Bool → (List Int) → Int → Option α) → Option α) (G_g50 : {α : Type} → Bool → (List Int) → (Bool → (List Int) → Int → Option α) → Option α) (G_g27 : {α : Type} → Bool → (List Int) → Bool → (List Int) → (Bool → Option α) → Option α)  (q151 : Bool) (u152 : List Int) (k186 : Bool → Option α) : Option α :=
  G_g23 q151 u152
    (fun l153 =>
      G_g49 q151 l153
        (fun b165 l166 x167 =>
          G_g23 q151 u152
            (fun l168 =>
              G_g50 q151 l168
                (fun b180 l181 x182 =>
                  G_g27 b180 l181 b165 l166
                    (fun b183 =>
                      cond (!b183)
                       (
                        k186 false)
                       (
                        cond (x182 != x167)
                         (
                          k186 false)
                         (
                          k186 true)))))))
def g7 {α : Type} (m : Nat) : Bool → (List Int) → (Bool → Option α) → Option α :=
  g7b (g23 m) (g49 m) (g50 m) (g27 m)
def g7tp : List TP := [(.vl (.agg [(.one .bool), (.seq (.int .u32) 6)]))]
def g7bp : List BP := []
def g7K {α : Type} (G : Bool → (List Int) → (Bool → Option α) → Option α) (ls : List Lf) (k : TV → List (List Seg) → List (List Seg) → Option α) : Option α :=
  G (lf ls 0).bool ((lf ls 1).lst (.int .u32))
    (fun y0 => k (.vl (.sv (.bool y0))) [] [])
def g7hd (G_g23 : {α : Type} → Bool → (List Int) → ((List Int) → Option α) → Option α) (G_g49 : {α : Type} → Bool → (List Int) → (Bool → (List Int) → Int → Option α) → Option α) (G_g50 : {α : Type} → Bool → (List Int) → (Bool → (List Int) → Int → Option α) → Option α) (G_g27 : {α : Type} → Bool → (List Int) → Bool → (List Int) → (Bool → Option α) → Option α)  : Hd where
  call := fun f args Bs k => cond (Nat.beq f 23) (rowK g23tp g23bp (g23K G_g23) args Bs k) (cond (Nat.beq f 49) (rowK g49tp g49bp (g49K G_g49) args Bs k) (cond (Nat.beq f 50) (rowK g50tp g50bp (g50K G_g50) args Bs k) (cond (Nat.beq f 27) (rowK g27tp g27bp (g27K G_g27) args Bs k) (none))))
  loop := fun id st k => none
  ro := fun f => []
def g7h (m : Nat) : Hd := g7hd (g23 m) (g49 m) (g50 m) (g27 m)
theorem g7Main (G_g23 : {α : Type} → Bool → (List Int) → ((List Int) → Option α) → Option α) (G_g49 : {α : Type} → Bool → (List Int) → (Bool → (List Int) → Int → Option α) → Option α) (G_g50 : {α : Type} → Bool → (List Int) → (Bool → (List Int) → Int → Option α) → Option α) (G_g27 : {α : Type} → Bool → (List Int) → Bool → (List Int) → (Bool → Option α) → Option α)  {α : Type} (ls : List Lf) (k : TV → List (List Seg) → List (List Seg) → Option α) :
    g7K (g7b G_g23 G_g49 G_g50 G_g27) ls k = evFun tab (g7hd G_g23 G_g49 G_g50 G_g27) Go.Proofs.Try.f7 (fillT g7tp ls).1 (fillB g7bp (fillT g7tp ls).2).1 k := by kernel_rfl
theorem g7Calls (m : Nat) : (g7h m).CallsOk Go.Proofs.Try.prog := (cok_cons (g23Ok m) (cok_cons (g49Ok m) (cok_cons (g50Ok m) (cok_cons (g27Ok m) cok_nil))))
theorem g7Fn (m : Nat) : FnOk Go.Proofs.Try.prog 7 g7tp g7bp (fun {α} => g7K (g7 (α := α) m)) :=
  fn_ok (tab := tab) (h := g7h m) (fn := Go.Proofs.Try.f7) (F := fun {α} => g7K (g7 (α := α) m)) tabOk (g7Calls m) mixed (by kernel_rfl) (by kernel_rfl) (fun c hc => by
    rw [bodyOf_some hc]
    exact loopsOk_of _ (fun p hp => by rw [show loopsOf (bodyOf Go.Proofs.Try.f7) = [] by kernel_rfl] at hp; cases hp))
    (fun α ls k => g7Main (g23 m) (g49 m) (g50 m) (g27 m) ls k)
theorem g7Ok (m : Nat) : RowOk Go.Proofs.Try.prog 7 (fun {α} => rowK g7tp g7bp (g7K (g7 (α := α) m))) := row_of (g7Fn m)

/-! ### g93: spec.l01Bits -/
def g93l2b {α : Type}   (v202 : Int) (a205 : List Int) (k209 : Int → Option α) (r210 : Int → Int → Option α) (v203 : Int) (v204 : Int) : Option α :=
  cond (decide (v204 > (0 : Int)))
   (
    r210 (IntKind.wrap .i64 (v203 + (1 : Int))) (Int.fdiv v204 (2 ^ 1)))
   (
    k209 v203)
def g93l2 {α : Type}   (v202 : Int) (a205 : List Int) (k209 : Int → Option α) : Nat → Int → Int → Option α
  | 0 => fun _ _ => none
  | m + 1 => fun v203 v204 => g93l2b v202 a205 k209 (g93l2 v202 a205 k209 m) v203 v204
def g93l2M {α : Type} (m : Nat) : Int → (List Int) → (Int → Option α) → Int → Int → Option α :=
  fun v202 a205 k209 v203 v204 => g93l2 v202 a205 k209 m v203 v204
def g93l2D : LoopD := { n := 31, sl := [3, 4, 5], bl := [0], tp := [(.vl (.sv (.int .i64))), (.vl (.sv (.int .i64))), (.vl (.sv (.int .u32)))], bp := [(false, [(.seq (.int .u32) 6)])], xs := [(4, [3, 4], [0])] }
def g93l2K {α : Type} (L : Int → (List Int) → (Int → Option α) → Int → Int → Option α) (ls : List Lf) (k : Ex → St → Option α) : Option α :=
  L (lf ls 0).int ((lf ls 3).lst (.int .u32))
    (fun y1 => k .normal (mkSt 31 [3, 4] [(.vl (.sv (.int .i64 (lf ls 0).int))), (.vl (.sv (.int .i64 y1)))] [0] [(false, [(.seq (.int .u32) 6 ((lf ls 3).lst (.int .u32)))])]))
    (lf ls 1).int (lf ls 2).int
def g93l0b {α : Type}  (L_g93l2 : {α : Type} → Int → (List Int) → (Int → Option α) → Int → Int → Option α) (a196 : List Int) (k214 : Int → Option α) (k215 : Option α) (r216 : Int → Option α) (v195 : Int) : Option α :=
  cond (decide (v195 ≥ (0 : Int)))
   (
    if 0 ≤ v195 ∧ v195 < (6 : Nat) then
      if v195.toNat < 6 then
        cond ((List.getD a196 v195.toNat 0) == (0 : Int))
         (
          r216 (IntKind.wrap .i64 (v195 - (1 : Int))))
         (
          if 0 ≤ v195 ∧ v195 < (6 : Nat) then
            if v195.toNat < 6 then
              L_g93l2 v195 a196
                (fun x211 =>
                  k214 (IntKind.wrap .i64 ((IntKind.wrap .i64 ((32 : Int) * v195)) + x211)))
                (0 : Int) (List.getD a196 v195.toNat 0)
            else
              none
          else
            none)
      else
        none
    else
      none)
   (
    k215)
def g93l0 {α : Type}  (L_g93l2 : {α : Type} → Int → (List Int) → (Int → Option α) → Int → Int → Option α) (a196 : List Int) (k214 : Int → Option α) (k215 : Option α) : Nat → Int → Option α
  | 0 => fun _ => none
  | m + 1 => fun v195 => g93l0b L_g93l2 a196 k214 k215 (g93l0 L_g93l2 a196 k214 k215 m) v195
def g93l0M {α : Type} (m : Nat) : (List Int) → (Int → Option α) → (Option α) → Int → Option α :=
  fun a196 k214 k215 v195 => g93l0 (g93l2M m) a196 k214 k215 m v195
def g93l0D : LoopD := { n := 31, sl := [0, 3], bl := [0], tp := [(.vl (.sv (.ptr 0 0))), (.vl (.sv (.int .i64)))], bp := [(false, [(.seq (.int .u32) 6)])], xs := [(1, [2], [0]), (2, [], [0])] }
def g93l0K {α : Type} (L : (List Int) → (Int → Option α) → (Option α) → Int → Option α) (ls : List Lf) (k : Ex → St → Option α) : Option α :=
  L ((lf ls 1).lst (.int .u32))
    (fun y0 => k .ret (mkSt 31 [2] [(.vl (.sv (.int .i64 y0)))] [0] [(false, [(.seq (.int .u32) 6 ((lf ls 1).lst (.int .u32)))])]))
    (k .normal (mkSt 31 [] [] [0] [(false, [(.seq (.int .u32) 6 ((lf ls 1).lst (.int .u32)))])]))
    (lf ls 0).int
def g93b {α : Type}  (L_g93l2 : {α : Type} → Int → (List Int) → (Int → Option α) → Int → Int → Option α) (L_g93l0 : {α : Type} → (List Int) → (Int → Option α) → (Option α) → Int → Option α) (u194 : List Int) (k218 : Int → Option α) : Option α :=
  L_g93l0 u194
    (fun x217 =>
      k218 x217)
    (
      k218 (0 : Int))
    (5 : Int)
def g93 {α : Type} (m : Nat) : (List Int) → (Int → Option α) → Option α :=
  g93b (g93l2M m) (g93l0M m)
def g93tp : List TP := [(.vl (.sv (.ptr 0 0)))]
def g93bp : List BP := [(false, [(.seq (.int .u32) 6)])]
def g93K {α : Type} (G : (List Int) → (Int → Option α) → Option α) (ls : List Lf) (k : TV → List (List Seg) → List (List Seg) → Option α) : Option α :=
  G ((lf ls 0).lst (.int .u32))
    (fun y0 => k (.vl (.sv (.int .i64 y0))) [[(.seq (.int .u32) 6 ((lf ls 0).lst (.int .u32)))]] [])
def g93hd  (L_g93l2 : {α : Type} → Int → (List Int) → (Int → Option α) → Int → Int → Option α) (L_g93l0 : {α : Type} → (List Int) → (Int → Option α) → (Option α) → Int → Option α) : Hd where
  call := fun f args Bs k => none
  loop := fun id st k => cond (Nat.beq id 2) (loopH g93l2D (g93l2K L_g93l2) st k) (cond (Nat.beq id 0) (loopH g93l0D (g93l0K L_g93l0) st k) (none))
  ro := fun f => []
def g93h (m : Nat) : Hd := g93hd (g93l2M m) (g93l0M m)
theorem g93l2Step  (L_g93l2 : {α : Type} → Int → (List Int) → (Int → Option α) → Int → Int → Option α) (L_g93l0 : {α : Type} → (List Int) → (Int → Option α) → (Option α) → Int → Option α) {α : Type} (L : Int → (List Int) → (Int → Option α) → Int → Int → Option α) (ls : List Lf) (k : Ex → St → Option α) :
    g93l2K (fun v202 a205 k209 v203 v204 => g93l2b v202 a205 k209 (L v202 a205 k209) v203 v204) ls k = ev tab (g93hd L_g93l2 L_g93l0) (bodyAt Go.Proofs.Try.f93 2) (atHead g93l2D ls) (loopK g93l2D 2 (loopH g93l2D (g93l2K L)) k) := by kernel_rfl
theorem g93l0Step  (L_g93l2 : {α : Type} → Int → (List Int) → (Int → Option α) → Int → Int → Option α) (L_g93l0 : {α : Type} → (List Int) → (Int → Option α) → (Option α) → Int → Option α) {α : Type} (L : (List Int) → (Int → Option α) → (Option α) → Int → Option α) (ls : List Lf) (k : Ex → St → Option α) :
    g93l0K (fun a196 k214 k215 v195 => g93l0b L_g93l2 a196 k214 k215 (L a196 k214 k215) v195) ls k = ev tab (g93hd L_g93l2 L_g93l0) (bodyAt Go.Proofs.Try.f93 0) (atHead g93l0D ls) (loopK g93l0D 0 (loopH g93l0D (g93l0K L)) k) := by kernel_rfl
theorem g93Main  (L_g93l2 : {α : Type} → Int → (List Int) → (Int → Option α) → Int → Int → Option α) (L_g93l0 : {α : Type} → (List Int) → (Int → Option α) → (Option α) → Int → Option α) {α : Type} (ls : List Lf) (k : TV → List (List Seg) → List (List Seg) → Option α) :
    g93K (g93b L_g93l2 L_g93l0) ls k = evFun tab (g93hd L_g93l2 L_g93l0) Go.Proofs.Try.f93 (fillT g93tp ls).1 (fillB g93bp (fillT g93tp ls).2).1 k := by kernel_rfl
theorem g93Calls (m : Nat) : (g93h m).CallsOk Go.Proofs.Try.prog := cok_nil
theorem g93l2Ok (m : Nat) (α : Type) (st : St) (k : Ex → St → Option α) (r : α) (h : (g93h m).loop 2 st k = some r) :
    ∃ e st', k e st' = some r ∧ CodeS Go.Proofs.Try.prog (.block 2 (.loop (bodyAt Go.Proofs.Try.f93 2))) st e st' :=
  loop_ok (tab := tab) (h := g93h m) (F := fun n ls k => g93l2K (fun v202 a205 k209 v203 v204 => g93l2 v202 a205 k209 n v203 v204) ls k) tabOk (g93Calls m) mixed (loopsOk_of _ (fun p hp => by rw [show loopsOf (bodyAt Go.Proofs.Try.f93 2) = [] by kernel_rfl] at hp; cases hp))
    (fun _ _ => rfl) (fun n ls k => g93l2Step (g93l2M m) (g93l0M m) (fun v202 a205 k209 => g93l2 v202 a205 k209 n) ls k) (n := m) h
theorem g93l0Ok (m : Nat) (α : Type) (st : St) (k : Ex → St → Option α) (r : α) (h : (g93h m).loop 0 st k = some r) :
    ∃ e st', k e st' = some r ∧ CodeS Go.Proofs.Try.prog (.block 0 (.loop (bodyAt Go.Proofs.Try.f93 0))) st e st' :=
  loop_ok (tab := tab) (h := g93h m) (F := fun n ls k => g93l0K (fun a196 k214 k215 v195 => g93l0 (g93l2M m) a196 k214 k215 n v195) ls k) tabOk (g93Calls m) mixed (loopsOk_of _ (fun p hp => by
    rw [show loopsOf (bodyAt Go.Proofs.Try.f93 0) = [(2, bodyAt Go.Proofs.Try.f93 2)] by kernel_rfl] at hp
    simp only [List.mem_cons, List.not_mem_nil, or_false] at hp
    rcases hp with rfl
    exact g93l2Ok m))
    (fun _ _ => rfl) (fun n ls k => g93l0Step (g93l2M m) (g93l0M m) (fun a196 k214 k215 => g93l0 (g93l2M m) a196 k214 k215 n) ls k) (n := m) h
theorem g93Fn (m : Nat) : FnOk Go.Proofs.Try.prog 93 g93tp g93bp (fun {α} => g93K (g93 (α := α) m)) :=
  fn_ok (tab := tab) (h := g93h m) (fn := Go.Proofs.Try.f93) (F := fun {α} => g93K (g93 (α := α) m)) tabOk (g93Calls m) mixed (by kernel_rfl) (by kernel_rfl) (fun c hc => by
    rw [bodyOf_some hc]
    exact loopsOk_of _ (fun p hp => by
    rw [show loopsOf (bodyOf Go.Proofs.Try.f93) = [(0, bodyAt Go.Proofs.Try.f93 0)] by kernel_rfl] at hp
    simp only [List.mem_cons, List.not_mem_nil, or_false] at hp
    rcases hp with rfl
    exact g93l0Ok m))
    (fun α ls k => g93Main (g93l2M m) (g93l0M m) ls k)
theorem g93Ok (m : Nat) : RowOk Go.Proofs.Try.prog 93 (fun {α} => rowK g93tp g93bp (g93K (g93 (α := α) m))) := row_of (g93Fn m)

/-! ### g51: spec.SizeOf -/
def g51b {α : Type} (G_g64 : {α : Type} → Bool → (List Int) → (Bool → Option α) → Option α) (G_g93 : {α : Type} → (List Int) → (Int → Option α) → Option α)  (q190 : Bool) (u191 : List Int) (k220 : Int → Int → Option α) : Option α :=
  G_g64 q190 u191
    (fun b192 =>
      cond (!b192)
       (
        k220 (0 : Int) (1 : Int))
       (
        G_g93 u191
          (fun x219 =>
            k220 x219 (0 : Int))))
def g51 {α : Type} (m : Nat) : Bool → (List Int) → (Int → Int → Option α) → Option α :=
  g51b (g64 m) (g93 m)
def g51tp : List TP := [(.vl (.agg [(.one .bool), (.seq (.int .u32) 6)]))]
def g51bp : List BP := []
def g51K {α : Type} (G : Bool → (List Int) → (Int → Int → Option α) → Option α) (ls : List Lf) (k : TV → List (List Seg) → List (List Seg) → Option α) : Option α :=
  G (lf ls 0).bool ((lf ls 1).lst (.int .u32))
    (fun y0 y1 => k (.tup [(.sv (.int .i64 y0)), (.sv (.int .i64 y1))]) [] [])
def g51hd (G_g64 : {α : Type} → Bool → (List Int) → (Bool → Option α) → Option α) (G_g93 : {α : Type} → (List Int) → (Int → Option α) → Option α)  : Hd where
  call := fun f args Bs k => cond (Nat.beq f 64) (rowK g64tp g64bp (g64K G_g64) args Bs k) (cond (Nat.beq f 93) (rowK g93tp g93bp (g93K G_g93) args Bs k) (none))
  loop := fun id st k => none
  ro := fun f => cond (Nat.beq f 64) [0] (cond (Nat.beq f 93) [0] ([]))
def g51h (m : Nat) : Hd := g51hd (g64 m) (g93 m)
theorem g51Main (G_g64 : {α : Type} → Bool → (List Int) → (Bool → Option α) → Option α) (G_g93 : {α : Type} → (List Int) → (Int → Option α) → Option α)  {α : Type} (ls : List Lf) (k : TV → List (List Seg) → List (List Seg) → Option α) :
    g51K (g51b G_g64 G_g93) ls k = evFun tab (g51hd G_g64 G_g93) Go.Proofs.Try.f51 (fillT g51tp ls).1 (fillB g51bp (fillT g51tp ls).2).1 k := by kernel_rfl
theorem g51Calls (m : Nat) : (g51h m).CallsOk Go.Proofs.Try.prog := (cok_cons (g64Ok m) (cok_cons (g93Ok m) cok_nil))
theorem g51Fn (m : Nat) : FnOk Go.Proofs.Try.prog 51 g51tp g51bp (fun {α} => g51K (g51 (α := α) m)) :=
  fn_ok (tab := tab) (h := g51h m) (fn := Go.Proofs.Try.f51) (F := fun {α} => g51K (g51 (α := α) m)) tabOk (g51Calls m) mixed (by kernel_rfl) (by kernel_rfl) (fun c hc => by
    rw [bodyOf_some hc]
    exact loopsOk_of _ (fun p hp => by rw [show loopsOf (bodyOf Go.Proofs.Try.f51) = [] by kernel_rfl] at hp; cases hp))
    (fun α ls k => g51Main (g64 m) (g93 m) ls k)
theorem g51Ok (m : Nat) : RowOk Go.Proofs.Try.prog 51 (fun {α} => rowK g51tp g51bp (g51K (g51 (α := α) m))) := row_of (g51Fn m)

/-! ### g119: math/bits.Len32 -/
def g119b {α : Type}   (p236 : Int) (k259 : Int → Option α) : Option α :=
  cond (decide (p236 ≥ (65536 : Int)))
   (
    let x238 : Int := Int.fdiv p236 (2 ^ 16)
    cond (decide (x238 ≥ (256 : Int)))
     (
      let x241 : Int := IntKind.wrap .u8 (Int.fdiv x238 (2 ^ 8))
      if 0 ≤ x241 ∧ x241 < strC0.size then
        k259 (IntKind.wrap .i64 ((24 : Int) + (IntKind.wrap .i64 (byteAt strC0 x241.toNat))))
      else
        none)
     (
      let x245 : Int := IntKind.wrap .u8 x238
      if 0 ≤ x245 ∧ x245 < strC0.size then
        k259 (IntKind.wrap .i64 ((16 : Int) + (IntKind.wrap .i64 (byteAt strC0 x245.toNat))))
      else
        none))
   (
    cond (decide (p236 ≥ (256 : Int)))
     (
      let x251 : Int := IntKind.wrap .u8 (Int.fdiv p236 (2 ^ 8))
      if 0 ≤ x251 ∧ x251 < strC0.size then
        k259 (IntKind.wrap .i64 ((8 : Int) + (IntKind.wrap .i64 (byteAt strC0 x251.toNat))))
      else
        none)
     (
      let x255 : Int := IntKind.wrap .u8 p236
      if 0 ≤ x255 ∧ x255 < strC0.size then
        k259 (IntKind.wrap .i64 ((0 : Int) + (IntKind.wrap .i64 (byteAt strC0 x255.toNat))))
      else
        none))
def g119 {α : Type} (m : Nat) : Int → (Int → Option α) → Option α :=
  g119b
def g119tp : List TP := [(.vl (.sv (.int .u32)))]
def g119bp : List BP := []
def g119K {α : Type} (G : Int → (Int → Option α) → Option α) (ls : List Lf) (k : TV → List (List Seg) → List (List Seg) → Option α) : Option α :=
  G (lf ls 0).int
    (fun y0 => k (.vl (.sv (.int .i64 y0))) [] [])
def g119hd   : Hd where
  call := fun f args Bs k => none
  loop := fun id st k => none
  ro := fun f => []
def g119h (m : Nat) : Hd := g119hd
theorem g119Main   {α : Type} (ls : List Lf) (k : TV → List (List Seg) → List (List Seg) → Option α) :
    g119K (g119b) ls k = evFun tab (g119hd) Go.Proofs.Try.f119 (fillT g119tp ls).1 (fillB g119bp (fillT g119tp ls).2).1 k := by kernel_rfl
theorem g119Calls (m : Nat) : (g119h m).CallsOk Go.Proofs.Try.prog := cok_nil
theorem g119Fn (m : Nat) : FnOk Go.Proofs.Try.prog 119 g119tp g119bp (fun {α} => g119K (g119 (α := α) m)) :=
  fn_ok (tab := tab) (h := g119h m) (fn := Go.Proofs.Try.f119) (F := fun {α} => g119K (g119 (α := α) m)) tabOk (g119Calls m) mixed (by kernel_rfl) (by kernel_rfl) (fun c hc => by
    rw [bodyOf_some hc]
    exact loopsOk_of _ (fun p hp => by rw [show loopsOf (bodyOf Go.Proofs.Try.f119) = [] by kernel_rfl] at hp; cases hp))
    (fun α ls k => g119Main ls k)
theorem g119Ok (m : Nat) : RowOk Go.Proofs.Try.prog 119 (fun {α} => rowK g119tp g119bp (g119K (g119 (α := α) m))) := row_of (g119Fn m)

/-! ### g94: (impl.size).bits -/
def g94l0b {α : Type} (G_g119 : {α : Type} → Int → (Int → Option α) → Option α)  (a230 : List Int) (k263 : Int → Option α) (k264 : Option α) (r265 : Int → Option α) (v229 : Int) : Option α :=
  cond (decide (v229 ≥ (0 : Int)))
   (
    if 0 ≤ v229 ∧ v229 < (6 : Nat) then
      if v229.toNat < 6 then
        cond ((List.getD a230 v229.toNat 0) != (0 : Int))
         (
          if 0 ≤ v229 ∧ v229 < (6 : Nat) then
            if v229.toNat < 6 then
              G_g119 (List.getD a230 v229.toNat 0)
                (fun x260 =>
                  k263 (IntKind.wrap .i64 ((IntKind.wrap .i64 ((32 : Int) * v229)) + x260)))
            else
              none
          else
            none)
         (
          r265 (IntKind.wrap .i64 (v229 - (1 : Int))))
      else
        none
    else
      none)
   (
    k264)
def g94l0 {α : Type} (G_g119 : {α : Type} → Int → (Int → Option α) → Option α)  (a230 : List Int) (k263 : Int → Option α) (k264 : Option α) : Nat → Int → Option α
  | 0 => fun _ => none
  | m + 1 => fun v229 => g94l0b G_g119 a230 k263 k264 (g94l0 G_g119 a230 k263 k264 m) v229
def g94l0M {α : Type} (m : Nat) : (List Int) → (Int → Option α) → (Option α) → Int → Option α :=
  fun a230 k263 k264 v229 => g94l0 (g119 m) a230 k263 k264 m v229
def g94l0D : LoopD := { n := 19, sl := [1, 3], bl := [1001], tp := [(.vl (.sv (.ptr 1001 0))), (.vl (.sv (.int .i64)))], bp := [(true, [(.seq (.int .u32) 6)])], xs := [(1, [2], []), (2, [], [])] }
def g94l0K {α : Type} (L : (List Int) → (Int → Option α) → (Option α) → Int → Option α) (ls : List Lf) (k : Ex → St → Option α) : Option α :=
  L ((lf ls 1).lst (.int .u32))
    (fun y0 => k .ret (mkSt 19 [2] [(.vl (.sv (.int .i64 y0)))] [] []))
    (k .normal (mkSt 19 [] [] [] []))
    (lf ls 0).int
def g94b {α : Type} (G_g119 : {α : Type} → Int → (Int → Option α) → Option α) (L_g94l0 : {α : Type} → (List Int) → (Int → Option α) → (Option α) → Int → Option α) (u228 : List Int) (k267 : Int → Option α) : Option α :=
  L_g94l0 u228
    (fun x266 =>
      k267 x266)
    (
      k267 (0 : Int))
    (5 : Int)
def g94 {α : Type} (m : Nat) : (List Int) → (Int → Option α) → Option α :=
  g94b (g119 m) (g94l0M m)
def g94tp : List TP := [(.vl (.agg [(.seq (.int .u32) 6)]))]
def g94bp : List BP := []
def g94K {α : Type} (G : (List Int) → (Int → Option α) → Option α) (ls : List Lf) (k : TV → List (List Seg) → List (List Seg) → Option α) : Option α :=
  G ((lf ls 0).lst (.int .u32))
    (fun y0 => k (.vl (.sv (.int .i64 y0))) [] [])
def g94hd (G_g119 : {α : Type} → Int → (Int → Option α) → Option α) (L_g94l0 : {α : Type} → (List Int) → (Int → Option α) → (Option α) → Int → Option α) : Hd where
  call := fun f args Bs k => cond (Nat.beq f 119) (rowK g119tp g119bp (g119K G_g119) args Bs k) (none)
  loop := fun id st k => cond (Nat.beq id 0) (loopH g94l0D (g94l0K L_g94l0) st k) (none)
  ro := fun f => []
def g94h (m : Nat) : Hd := g94hd (g119 m) (g94l0M m)
theorem g94l0Step (G_g119 : {α : Type} → Int → (Int → Option α) → Option α) (L_g94l0 : {α : Type} → (List Int) → (Int → Option α) → (Option α) → Int → Option α) {α : Type} (L : (List Int) → (Int → Option α) → (Option α) → Int → Option α) (ls : List Lf) (k : Ex → St → Option α) :
    g94l0K (fun a230 k263 k264 v229 => g94l0b G_g119 a230 k263 k264 (L a230 k263 k264) v229) ls k = ev tab (g94hd G_g119 L_g94l0) (bodyAt Go.Proofs.Try.f94 0) (atHead g94l0D ls) (loopK g94l0D 0 (loopH g94l0D (g94l0K L)) k) := by kernel_rfl
theorem g94Main (G_g119 : {α : Type} → Int → (Int → Option α) → Option α) (L_g94l0 : {α : Type} → (List Int) → (Int → Option α) → (Option α) → Int → Option α) {α : Type} (ls : List Lf) (k : TV → List (List Seg) → List (List Seg) → Option α) :
    g94K (g94b G_g119 L_g94l0) ls k = evFun tab (g94hd G_g119 L_g94l0) Go.Proofs.Try.f94 (fillT g94tp ls).1 (fillB g94bp (fillT g94tp ls).2).1 k := by kernel_rfl
theorem g94Calls (m : Nat) : (g94h m).CallsOk Go.Proofs.Try.prog := (cok_cons (g119Ok m) cok_nil)
theorem g94l0Ok (m : Nat) (α : Type) (st : St) (k : Ex → St → Option α) (r : α) (h : (g94h m).loop 0 st k = some r) :
    ∃ e st', k e st' = some r ∧ CodeS Go.Proofs.Try.prog (.block 0 (.loop (bodyAt Go.Proofs.Try.f94 0))) st e st' :=
  loop_ok (tab := tab) (h := g94h m) (F := fun n ls k => g94l0K (fun a230 k263 k264 v229 => g94l0 (g119 m) a230 k263 k264 n v229) ls k) tabOk (g94Calls m) mixed (loopsOk_of _ (fun p hp => by rw [show loopsOf (bodyAt Go.Proofs.Try.f94 0) = [] by kernel_rfl] at hp; cases hp))
    (fun _ _ => rfl) (fun n ls k => g94l0Step (g119 m) (g94l0M m) (fun a230 k263 k264 => g94l0 (g119 m) a230 k263 k264 n) ls k) (n := m) h
theorem g94Fn (m : Nat) : FnOk Go.Proofs.Try.prog 94 g94tp g94bp (fun {α} => g94K (g94 (α := α) m)) :=
  fn_ok (tab := tab) (h := g94h m) (fn := Go.Proofs.Try.f94) (F := fun {α} => g94K (g94 (α := α) m)) tabOk (g94Calls m) mixed (by kernel_rfl) (by kernel_rfl) (fun c hc => by
    rw [bodyOf_some hc]
    exact loopsOk_of _ (fun p hp => by
    rw [show loopsOf (bodyOf Go.Proofs.Try.f94) = [(0, bodyAt Go.Proofs.Try.f94 0)] by kernel_rfl] at hp
    simp only [List.mem_cons, List.not_mem_nil, or_false] at hp
    rcases hp with rfl
    exact g94l0Ok m))
    (fun α ls k => g94Main (g119 m) (g94l0M m) ls k)
theorem g94Ok (m : Nat) : RowOk Go.Proofs.Try.prog 94 (fun {α} => rowK g94tp g94bp (g94K (g94 (α := α) m))) := row_of (g94Fn m)

/-! ### g52: impl.SizeOf -/
def g52b {α : Type} (G_g24 : {α : Type} → Bool → (List Int) → (Bool → Option α) → Option α) (G_g94 : {α : Type} → (List Int) → (Int → Option α) → Option α)  (q224 : Bool) (u225 : List Int) (k269 : Int → Int → Option α) : Option α :=
  G_g24 q224 u225
    (fun b226 =>
      cond (!b226)
       (
        k269 (0 : Int) (1 : Int))
       (
        G_g94 u225
          (fun x268 =>
            k269 x268 (0 : Int))))
def g52 {α : Type} (m : Nat) : Bool → (List Int) → (Int → Int → Option α) → Option α :=
  g52b (g24 m) (g94 m)
def g52tp : List TP := [(.vl (.agg [(.one .bool), (.seq (.int .u32) 6)]))]
def g52bp : List BP := []
def g52K {α : Type} (G : Bool → (List Int) → (Int → Int → Option α) → Option α) (ls : List Lf) (k : TV → List (List Seg) → List (List Seg) → Option α) : Option α :=
  G (lf ls 0).bool ((lf ls 1).lst (.int .u32))
    (fun y0 y1 => k (.tup [(.sv (.int .i64 y0)), (.sv (.int .i64 y1))]) [] [])
def g52hd (G_g24 : {α : Type} → Bool → (List Int) → (Bool → Option α) → Option α) (G_g94 : {α : Type} → (List Int) → (Int → Option α) → Option α)  : Hd where
  call := fun f args Bs k => cond (Nat.beq f 24) (rowK g24tp g24bp (g24K G_g24) args Bs k) (cond (Nat.beq f 94) (rowK g94tp g94bp (g94K G_g94) args Bs k) (none))
  loop := fun id st k => none
  ro := fun f => []
def g52h (m : Nat) : Hd := g52hd (g24 m) (g94 m)
theorem g52Main (G_g24 : {α : Type} → Bool → (List Int) → (Bool → Option α) → Option α) (G_g94 : {α : Type} → (List Int) → (Int → Option α) → Option α)  {α : Type} (ls : List Lf) (k : TV → List (List Seg) → List (List Seg) → Option α) :
    g52K (g52b G_g24 G_g94) ls k = evFun tab (g52hd G_g24 G_g94) Go.Proofs.Try.f52 (fillT g52tp ls).1 (fillB g52bp (fillT g52tp ls).2).1 k := by kernel_rfl
theorem g52Calls (m : Nat) : (g52h m).CallsOk Go.Proofs.Try.prog := (cok_cons (g24Ok m) (cok_cons (g94Ok m) cok_nil))
theorem g52Fn (m : Nat) : FnOk Go.Proofs.Try.prog 52 g52tp g52bp (fun {α} => g52K (g52 (α := α) m)) :=
  fn_ok (tab := tab) (h := g52h m) (fn := Go.Proofs.Try.f52) (F := fun {α} => g52K (g52 (α := α) m)) tabOk (g52Calls m) mixed (by kernel_rfl) (by kernel_rfl) (fun c hc => by
    rw [bodyOf_some hc]
    exact loopsOk_of _ (fun p hp => by rw [show loopsOf (bodyOf Go.Proofs.Try.f52) = [] by kernel_rfl] at hp; cases hp))
    (fun α ls k => g52Main (g24 m) (g94 m) ls k)
theorem g52Ok (m : Nat) : RowOk Go.Proofs.Try.prog 52 (fun {α} => rowK g52tp g52bp (g52K (g52 (α := α) m))) := row_of (g52Fn m)

/-! ### g8: laws.FnExactSizeOf -/
def g8b {α : Type} (G_g23 : {α : Type} → Bool → (List Int) → ((List Int) → Option α) → Option α) (G_g51 : {α : Type} → Bool → (List Int) → (Int → Int → Option α) → Option α) (G_g52 : {α : Type} → Bool → (List Int) → (Int → Int → Option α) → Option α)  (q187 : Bool) (u188 : List Int) (k274 : Bool → Option α) : Option α :=
  G_g23 q187 u188
    (fun l189 =>
      G_g51 q187 l189
        (fun x221 x222 =>
          G_g23 q187 u188
            (fun l223 =>
              G_g52 q187 l223
                (fun x270 x271 =>
                  cond (x270 != x221)
                   (
                    k274 false)
                   (
                    cond (x271 != x222)
                     (
                      k274 false)
                     (
                      k274 true))))))
def g8 {α : Type} (m : Nat) : Bool → (List Int) → (Bool → Option α) → Option α :=
  g8b (g23 m) (g51 m) (g52 m)
def g8tp : List TP := [(.vl (.agg [(.one .bool), (.seq (.int .u32) 6)]))]
def g8bp : List BP := []
def g8K {α : Type} (G : Bool → (List Int) → (Bool → Option α) → Option α) (ls : List Lf) (k : TV → List (List Seg) → List (List Seg) → Option α) : Option α :=
  G (lf ls 0).bool ((lf ls 1).lst (.int .u32))
    (fun y0 => k (.vl (.sv (.bool y0))) [] [])
def g8hd (G_g23 : {α : Type} → Bool → (List Int) → ((List Int) → Option α) → Option α) (G_g51 : {α : Type} → Bool → (List Int) → (Int → Int → Option α) → Option α) (G_g52 : {α : Type} → Bool → (List Int) → (Int → Int → Option α) → Option α)  : Hd where
  call := fun f args Bs k => cond (Nat.beq f 23) (rowK g23tp g23bp (g23K G_g23) args Bs k) (cond (Nat.beq f 51) (rowK g51tp g51bp (g51K G_g51) args Bs k) (cond (Nat.beq f 52) (rowK g52tp g52bp (g52K G_g52) args Bs k) (none)))
  loop := fun id st k => none
  ro := fun f => []
def g8h (m : Nat) : Hd := g8hd (g23 m) (g51 m) (g52 m)
theorem g8Main (G_g23 : {α : Type} → Bool → (List Int) → ((List Int) → Option α) → Option α) (G_g51 : {α : Type} → Bool → (List Int) → (Int → Int → Option α) → Option α) (G_g52 : {α : Type} → Bool → (List Int) → (Int → Int → Option α) → Option α)  {α : Type} (ls : List Lf) (k : TV → List (List Seg) → List (List Seg) → Option α) :
    g8K (g8b G_g23 G_g51 G_g52) ls k = evFun tab (g8hd G_g23 G_g51 G_g52) Go.Proofs.Try.f8 (fillT g8tp ls).1 (fillB g8bp (fillT g8tp ls).2).1 k := by kernel_rfl
theorem g8Calls (m : Nat) : (g8h m).CallsOk Go.Proofs.Try.prog := (cok_cons (g23Ok m) (cok_cons (g51Ok m) (cok_cons (g52Ok m) cok_nil)))
theorem g8Fn (m : Nat) : FnOk Go.Proofs.Try.prog 8 g8tp g8bp (fun {α} => g8K (g8 (α := α) m)) :=
  fn_ok (tab := tab) (h := g8h m) (fn := Go.Proofs.Try.f8) (F := fun {α} => g8K (g8 (α := α) m)) tabOk (g8Calls m) mixed (by kernel_rfl) (by kernel_rfl) (fun c hc => by
    rw [bodyOf_some hc]
    exact loopsOk_of _ (fun p hp => by rw [show loopsOf (bodyOf Go.Proofs.Try.f8) = [] by kernel_rfl] at hp; cases hp))
    (fun α ls k => g8Main (g23 m) (g51 m) (g52 m) ls k)
theorem g8Ok (m : Nat) : RowOk Go.Proofs.Try.prog 8 (fun {α} => rowK g8tp g8bp (g8K (g8 (α := α) m))) := row_of (g8Fn m)

/-! ### g115: spec.l01Cmp -/
def g115l0b {α : Type}   (a298 : List Int) (a299 : List Int) (k308 : Int → Option α) (k309 : Option α) (r310 : Int → Option α) (v297 : Int) : Option α :=
  cond (decide (v297 ≥ (0 : Int)))
   (
    if 0 ≤ v297 ∧ v297 < (6 : Nat) then
      if v297.toNat < 6 then
        if 0 ≤ v297 ∧ v297 < (6 : Nat) then
          if v297.toNat < 6 then
            cond (decide ((List.getD a298 v297.toNat 0) < (List.getD a299 v297.toNat 0)))
             (
              k308 (-1 : Int))
             (
              if 0 ≤ v297 ∧ v297 < (6 : Nat) then
                if v297.toNat < 6 then
                  if 0 ≤ v297 ∧ v297 < (6 : Nat) then
                    if v297.toNat < 6 then
                      cond (decide ((List.getD a298 v297.toNat 0) > (List.getD a299 v297.toNat 0)))
                       (
                        k308 (1 : Int))
                       (
                        r310 (IntKind.wrap .i64 (v297 - (1 : Int))))
                    else
                      none
                  else
                    none
                else
                  none
              else
                none)
          else
            none
        else
          none
      else
        none
    else
      none)
   (
    k309)
def g115l0 {α : Type}   (a298 : List Int) (a299 : List Int) (k308 : Int → Option α) (k309 : Option α) : Nat → Int → Option α
  | 0 => fun _ => none
  | m + 1 => fun v297 => g115l0b a298 a299 k308 k309 (g115l0 a298 a299 k308 k309 m) v297
def g115l0M {α : Type} (m : Nat) : (List Int) → (List Int) → (Int → Option α) → (Option α) → Int → Option α :=
  fun a298 a299 k308 k309 v297 => g115l0 a298 a299 k308 k309 m v297
def g115l0D : LoopD := { n := 32, sl := [0, 1, 5], bl := [0, 1], tp := [(.vl (.sv (.ptr 0 0))), (.vl (.sv (.ptr 1 0))), (.vl (.sv (.int .i64)))], bp := [(false, [(.seq (.int .u32) 6)]), (false, [(.seq (.int .u32) 6)])], xs := [(1, [4], [0, 1]), (2, [], [0, 1])] }
def g115l0K {α : Type} (L : (List Int) → (List Int) → (Int → Option α) → (Option α) → Int → Option α) (ls : List Lf) (k : Ex → St → Option α) : Option α :=
  L ((lf ls 1).lst (.int .u32)) ((lf ls 2).lst (.int .u32))
    (fun y0 => k .ret (mkSt 32 [4] [(.vl (.sv (.int .i64 y0)))] [0, 1] [(false, [(.seq (.int .u32) 6 ((lf ls 1).lst (.int .u32)))]), (false, [(.seq (.int .u32) 6 ((lf ls 2).lst (.int .u32)))])]))
    (k .normal (mkSt 32 [] [] [0, 1] [(false, [(.seq (.int .u32) 6 ((lf ls 1).lst (.int .u32)))]), (false, [(.seq (.int .u32) 6 ((lf ls 2).lst (.int .u32)))])]))
    (lf ls 0).int
def g115b {α : Type}  (L_g115l0 : {α : Type} → (List Int) → (List Int) → (Int → Option α) → (Option α) → Int → Option α) (u295 : List Int) (u296 : List Int) (k312 : Int → Option α) : Option α :=
  L_g115l0 u295 u296
    (fun x311 =>
      k312 x311)
    (
      k312 (0 : Int))
    (5 : Int)
def g115 {α : Type} (m : Nat) : (List Int) → (List Int) → (Int → Option α) → Option α :=
  g115b (g115l0M m)
def g115tp : List TP := [(.vl (.sv (.ptr 0 0))), (.vl (.sv (.ptr 1 0)))]
def g115bp : List BP := [(false, [(.seq (.int .u32) 6)]), (false, [(.seq (.int .u32) 6)])]
def g115K {α : Type} (G : (List Int) → (List Int) → (Int → Option α) → Option α) (ls : List Lf) (k : TV → List (List Seg) → List (List Seg) → Option α) : Option α :=
  G ((lf ls 0).lst (.int .u32)) ((lf ls 1).lst (.int .u32))
    (fun y0 => k (.vl (.sv (.int .i64 y0))) [[(.seq (.int .u32) 6 ((lf ls 0).lst (.int .u32)))], [(.seq (.int .u32) 6 ((lf ls 1).lst (.int .u32)))]] [])
def g115hd  (L_g115l0 : {α : Type} → (List Int) → (List Int) → (Int → Option α) → (Option α) → Int → Option α) : Hd where
  call := fun f args Bs k => none
  loop := fun id st k => cond (Nat.beq id 0) (loopH g115l0D (g115l0K L_g115l0) st k) (none)
  ro := fun f => []
def g115h (m : Nat) : Hd := g115hd (g115l0M m)
theorem g115l0Step  (L_g115l0 : {α : Type} → (List Int) → (List Int) → (Int → Option α) → (Option α) → Int → Option α) {α : Type} (L : (List Int) → (List Int) → (Int → Option α) → (Option α) → Int → Option α) (ls : List Lf) (k : Ex → St → Option α) :
    g115l0K (fun a298 a299 k308 k309 v297 => g115l0b a298 a299 k308 k309 (L a298 a299 k308 k309) v297) ls k = ev tab (g115hd L_g115l0) (bodyAt Go.Proofs.Try.f115 0) (atHead g115l0D ls) (loopK g115l0D 0 (loopH g115l0D (g115l0K L)) k) := by kernel_rfl
theorem g115Main  (L_g115l0 : {α : Type} → (List Int) → (List Int) → (Int → Option α) → (Option α) → Int → Option α) {α : Type} (ls : List Lf) (k : TV → List (List Seg) → List (List Seg) → Option α) :
    g115K (g115b L_g115l0) ls k = evFun tab (g115hd L_g115l0) Go.Proofs.Try.f115 (fillT g115tp ls).1 (fillB g115bp (fillT g115tp ls).2).1 k := by kernel_rfl
theorem g115Calls (m : Nat) : (g115h m).CallsOk Go.Proofs.Try.prog := cok_nil
theorem g115l0Ok (m : Nat) (α : Type) (st : St) (k : Ex → St → Option α) (r : α) (h : (g115h m).loop 0 st k = some r) :
    ∃ e st', k e st' = some r ∧ CodeS Go.Proofs.Try.prog (.block 0 (.loop (bodyAt Go.Proofs.Try.f115 0))) st e st' :=
  loop_ok (tab := tab) (h := g115h m) (F := fun n ls k => g115l0K (fun a298 a299 k308 k309 v297 => g115l0 a298 a299 k308 k309 n v297) ls k) tabOk (g115Calls m) mixed (loopsOk_of _ (fun p hp => by rw [show loopsOf (bodyAt Go.Proofs.Try.f115 0) = [] by kernel_rfl] at hp; cases hp))
    (fun _ _ => rfl) (fun n ls k => g115l0Step (g115l0M m) (fun a298 a299 k308 k309 => g115l0 a298 a299 k308 k309 n) ls k) (n := m) h
theorem g115Fn (m : Nat) : FnOk Go.Proofs.Try.prog 115 g115tp g115bp (fun {α} => g115K (g115 (α := α) m)) :=
  fn_ok (tab := tab) (h := g115h m) (fn := Go.Proofs.Try.f115) (F := fun {α} => g115K (g115 (α := α) m)) tabOk (g115Calls m) mixed (by kernel_rfl) (by kernel_rfl) (fun c hc => by
    rw [bodyOf_some hc]
    exact loopsOk_of _ (fun p hp => by
    rw [show loopsOf (bodyOf Go.Proofs.Try.f115) = [(0, bodyAt Go.Proofs.Try.f115 0)] by kernel_rfl] at hp
    simp only [List.mem_cons, List.not_mem_nil, or_false] at hp
    rcases hp with rfl
    exact g115l0Ok m))
    (fun α ls k => g115Main (g115l0M m) ls k)
theorem g115Ok (m : Nat) : RowOk Go.Proofs.Try.prog 115 (fun {α} => rowK g115tp g115bp (g115K (g115 (α := α) m))) := row_of (g115Fn m)

/-! ### g82: spec.l01Compare -/
def g82b {α : Type} (G_g115 : {α : Type} → (List Int) → (List Int) → (Int → Option α) → Option α)  (q289 : Bool) (u290 : List Int) (q291 : Bool) (u292 : List Int) (k322 : Int → Option α) : Option α :=
  cond q289
   (
    cond (!q291)
     (
      k322 (-1 : Int))
     (
      cond (!q289)
       (
        cond q291
         (
          k322 (1 : Int))
         (
          cond q289
           (
            G_g115 u292 u290
              (fun x313 =>
                k322 x313))
           (
            G_g115 u290 u292
              (fun x314 =>
                k322 x314))))
       (
        cond q289
         (
          G_g115 u292 u290
            (fun x315 =>
              k322 x315))
         (
          G_g115 u290 u292
            (fun x316 =>
              k322 x316)))))
   (
    cond (!q289)
     (
      cond q291
       (
        k322 (1 : Int))
       (
        cond q289
         (
          G_g115 u292 u290
            (fun x318 =>
              k322 x318))
         (
          G_g115 u290 u292
            (fun x319 =>
              k322 x319))))
     (
      cond q289
       (
        G_g115 u292 u290
          (fun x320 =>
            k322 x320))
       (
        G_g115 u290 u292
          (fun x321 =>
            k322 x321))))
def g82 {α : Type} (m : Nat) : Bool → (List Int) → Bool → (List Int) → (Int → Option α) → Option α :=
  g82b (g115 m)
def g82tp : List TP := [(.vl (.sv (.ptr 0 0))), (.vl (.sv (.ptr 1 0)))]
def g82bp : List BP := [(false, [(.one .bool), (.seq (.int .u32) 6)]), (false, [(.one .bool), (.seq (.int .u32) 6)])]
def g82K {α : Type} (G : Bool → (List Int) → Bool → (List Int) → (Int → Option α) → Option α) (ls : List Lf) (k : TV → List (List Seg) → List (List Seg) → Option α) : Option α :=
  G (lf ls 0).bool ((lf ls 1).lst (.int .u32)) (lf ls 2).bool ((lf ls 3).lst (.int .u32))
    (fun y0 => k (.vl (.sv (.int .i64 y0))) [[(.one (.bool (lf ls 0).bool)), (.seq (.int .u32) 6 ((lf ls 1).lst (.int .u32)))], [(.one (.bool (lf ls 2).bool)), (.seq (.int .u32) 6 ((lf ls 3).lst (.int .u32)))]] [])
def g82hd (G_g115 : {α : Type} → (List Int) → (List Int) → (Int → Option α) → Option α)  : Hd where
  call := fun f args Bs k => cond (Nat.beq f 115) (rowK g115tp g115bp (g115K G_g115) args Bs k) (none)
  loop := fun id st k => none
  ro := fun f => cond (Nat.beq f 115) [0, 1] ([])
def g82h (m : Nat) : Hd := g82hd (g115 m)
theorem g82Main (G_g115 : {α : Type} → (List Int) → (List Int) → (Int → Option α) → Option α)  {α : Type} (ls : List Lf) (k : TV → List (List Seg) → List (List Seg) → Option α) :
    g82K (g82b G_g115) ls k = evFun tab (g82hd G_g115) Go.Proofs.Try.f82 (fillT g82tp ls).1 (fillB g82bp (fillT g82tp ls).2).1 k := by kernel_rfl
theorem g82Calls (m : Nat) : (g82h m).CallsOk Go.Proofs.Try.prog := (cok_cons (g115Ok m) cok_nil)
theorem g82Fn (m : Nat) : FnOk Go.Proofs.Try.prog 82 g82tp g82bp (fun {α} => g82K (g82 (α := α) m)) :=
  fn_ok (tab := tab) (h := g82h m) (fn := Go.Proofs.Try.f82) (F := fun {α} => g82K (g82 (α := α) m)) tabOk (g82Calls m) mixed (by kernel_rfl) (by kernel_rfl) (fun c hc => by
    rw [bodyOf_some hc]
    exact loopsOk_of _ (fun p hp => by rw [show loopsOf (bodyOf Go.Proofs.Try.f82) = [] by kernel_rfl] at hp; cases hp))
    (fun α ls k => g82Main (g115 m) ls k)
theorem g82Ok (m : Nat) : RowOk Go.Proofs.Try.prog 82 (fun {α} => rowK g82tp g82bp (g82K (g82 (α := α) m))) := row_of (g82Fn m)

/-! ### g38: spec.CompareWides -/
def g38b {α : Type} (G_g64 : {α : Type} → Bool → (List Int) → (Bool → Option α) → Option α) (G_g82 : {α : Type} → Bool → (List Int) → Bool → (List Int) → (Int → Option α) → Option α)  (q281 : Bool) (u282 : List Int) (q283 : Bool) (u284 : List Int) (k324 : Int → Int → Option α) : Option α :=
  G_g64 q281 u282
    (fun b285 =>
      cond (!b285)
       (
        k324 (0 : Int) (1 : Int))
       (
        G_g64 q283 u284
          (fun b287 =>
            cond (!b287)
             (
              k324 (0 : Int) (1 : Int))
             (
              G_g82 q281 u282 q283 u284
                (fun x323 =>
                  k324 x323 (0 : Int))))))
def g38 {α : Type} (m : Nat) : Bool → (List Int) → Bool → (List Int) → (Int → Int → Option α) → Option α :=
  g38b (g64 m) (g82 m)
def g38tp : List TP := [(.vl (.agg [(.one .bool), (.seq (.int .u32) 6)])), (.vl (.agg [(.one .bool), (.seq (.int .u32) 6)]))]
def g38bp : List BP := []
def g38K {α : Type} (G : Bool → (List Int) → Bool → (List Int) → (Int → Int → Option α) → Option α) (ls : List Lf) (k : TV → List (List Seg) → List (List Seg) → Option α) : Option α :=
  G (lf ls 0).bool ((lf ls 1).lst (.int .u32)) (lf ls 2).bool ((lf ls 3).lst (.int .u32))
    (fun y0 y1 => k (.tup [(.sv (.int .i64 y0)), (.sv (.int .i64 y1))]) [] [])
def g38hd (G_g64 : {α : Type} → Bool → (List Int) → (Bool → Option α) → Option α) (G_g82 : {α : Type} → Bool → (List Int) → Bool → (List Int) → (Int → Option α) → Option α)  : Hd where
  call := fun f args Bs k => cond (Nat.beq f 64) (rowK g64tp g64bp (g64K G_g64) args Bs k) (cond (Nat.beq f 82) (rowK g82tp g82bp (g82K G_g82) args Bs k) (none))
  loop := fun id st k => none
  ro := fun f => cond (Nat.beq f 64) [0] (cond (Nat.beq f 82) [0, 1] ([]))
def g38h (m : Nat) : Hd := g38hd (g64 m) (g82 m)
theorem g38Main (G_g64 : {α : Type} → Bool → (List Int) → (Bool → Option α) → Option α) (G_g82 : {α : Type} → Bool → (List Int) → Bool → (List Int) → (Int → Option α) → Option α)  {α : Type} (ls : List Lf) (k : TV → List (List Seg) → List (List Seg) → Option α) :
    g38K (g38b G_g64 G_g82) ls k = evFun tab (g38hd G_g64 G_g82) Go.Proofs.Try.f38 (fillT g38tp ls).1 (fillB g38bp (fillT g38tp ls).2).1 k := by kernel_rfl
theorem g38Calls (m : Nat) : (g38h m).CallsOk Go.Proofs.Try.prog := (cok_cons (g64Ok m) (cok_cons (g82Ok m) cok_nil))
theorem g38Fn (m : Nat) : FnOk Go.Proofs.Try.prog 38 g38tp g38bp (fun {α} => g38K (g38 (α := α) m)) :=
  fn_ok (tab := tab) (h := g38h m) (fn := Go.Proofs.Try.f38) (F := fun {α} => g38K (g38 (α := α) m)) tabOk (g38Calls m) mixed (by kernel_rfl) (by kernel_rfl) (fun c hc => by
    rw [bodyOf_some hc]
    exact loopsOk_of _ (fun p hp => by rw [show loopsOf (bodyOf Go.Proofs.Try.f38) = [] by kernel_rfl] at hp; cases hp))
    (fun α ls k => g38Main (g64 m) (g82 m) ls k)
theorem g38Ok (m : Nat) : RowOk Go.Proofs.Try.prog 38 (fun {α} => rowK g38tp g38bp (g38K (g38 (α := α) m))) := row_of (g38Fn m)

/-! ### g111: (impl.size).compare -/
def g111l0b {α : Type}   (a346 : List Int) (a347 : List Int) (k356 : Int → Option α) (k357 : Option α) (r358 : Int → Option α) (v345 : Int) : Option α :=
  cond (decide (v345 ≥ (0 : Int)))
   (
    if 0 ≤ v345 ∧ v345 < (6 : Nat) then
      if v345.toNat < 6 then
        if 0 ≤ v345 ∧ v345 < (6 : Nat) then
          if v345.toNat < 6 then
            cond ((List.getD a346 v345.toNat 0) != (List.getD a347 v345.toNat 0))
             (
              if 0 ≤ v345 ∧ v345 < (6 : Nat) then
                if v345.toNat < 6 then
                  if 0 ≤ v345 ∧ v345 < (6 : Nat) then
                    if v345.toNat < 6 then
                      cond (decide ((List.getD a346 v345.toNat 0) < (List.getD a347 v345.toNat 0)))
                       (
                        k356 (-1 : Int))
                       (
                        k356 (1 : Int))
                    else
                      none
                  else
                    none
                else
                  none
              else
                none)
             (
              r358 (IntKind.wrap .i64 (v345 - (1 : Int))))
          else
            none
        else
          none
      else
        none
    else
      none)
   (
    k357)
def g111l0 {α : Type}   (a346 : List Int) (a347 : List Int) (k356 : Int → Option α) (k357 : Option α) : Nat → Int → Option α
  | 0 => fun _ => none
  | m + 1 => fun v345 => g111l0b a346 a347 k356 k357 (g111l0 a346 a347 k356 k357 m) v345
def g111l0M {α : Type} (m : Nat) : (List Int) → (List Int) → (Int → Option α) → (Option α) → Int → Option α :=
  fun a346 a347 k356 k357 v345 => g111l0 a346 a347 k356 k357 m v345
def g111l0D : LoopD := { n := 24, sl := [2, 3, 5], bl := [1002, 1003], tp := [(.vl (.sv (.ptr 1002 0))), (.vl (.sv (.ptr 1003 0))), (.vl (.sv (.int .i64)))], bp := [(true, [(.seq (.int .u32) 6)]), (true, [(.seq (.int .u32) 6)])], xs := [(1, [4], []), (2, [], [])] }
def g111l0K {α : Type} (L : (List Int) → (List Int) → (Int → Option α) → (Option α) → Int → Option α) (ls : List Lf) (k : Ex → St → Option α) : Option α :=
  L ((lf ls 1).lst (.int .u32)) ((lf ls 2).lst (.int .u32))
    (fun y0 => k .ret (mkSt 24 [4] [(.vl (.sv (.int .i64 y0)))] [] []))
    (k .normal (mkSt 24 [] [] [] []))
    (lf ls 0).int
def g111b {α : Type}  (L_g111l0 : {α : Type} → (List Int) → (List Int) → (Int → Option α) → (Option α) → Int → Option α) (u343 : List Int) (u344 : List Int) (k360 : Int → Option α) : Option α :=
  L_g111l0 u343 u344
    (fun x359 =>
      k360 x359)
    (
      k360 (0 : Int))
    (5 : Int)
def g111 {α : Type} (m : Nat) : (List Int) → (List Int) → (Int → Option α) → Option α :=
  g111b (g111l0M m)
def g111tp : List TP := [(.vl (.agg [(.seq (.int .u32) 6)])), (.vl (.agg [(.seq (.int .u32) 6)]))]
def g111bp : List BP := []
def g111K {α : Type} (G : (List Int) → (List Int) → (Int → Option α) → Option α) (ls : List Lf) (k : TV → List (List Seg) → List (List Seg) → Option α) : Option α :=
  G ((lf ls 0).lst (.int .u32)) ((lf ls 1).lst (.int .u32))
    (fun y0 => k (.vl (.sv (.int .i64 y0))) [] [])
def g111hd  (L_g111l0 : {α : Type} → (List Int) → (List Int) → (Int → Option α) → (Option α) → Int → Option α) : Hd where
  call := fun f args Bs k => none
  loop := fun id st k => cond (Nat.beq id 0) (loopH g111l0D (g111l0K L_g111l0) st k) (none)
  ro := fun f => []
def g111h (m : Nat) : Hd := g111hd (g111l0M m)
theorem g111l0Step  (L_g111l0 : {α : Type} → (List Int) → (List Int) → (Int → Option α) → (Option α) → Int → Option α) {α : Type} (L : (List Int) → (List Int) → (Int → Option α) → (Option α) → Int → Option α) (ls : List Lf) (k : Ex → St → Option α) :
    g111l0K (fun a346 a347 k356 k357 v345 => g111l0b a346 a347 k356 k357 (L a346 a347 k356 k357) v345) ls k = ev tab (g111hd L_g111l0) (bodyAt Go.Proofs.Try.f111 0) (atHead g111l0D ls) (loopK g111l0D 0 (loopH g111l0D (g111l0K L)) k) := by kernel_rfl
theorem g111Main  (L_g111l0 : {α : Type} → (List Int) → (List Int) → (Int → Option α) → (Option α) → Int → Option α) {α : Type} (ls : List Lf) (k : TV → List (List Seg) → List (List Seg) → Option α) :
    g111K (g111b L_g111l0) ls k = evFun tab (g111hd L_g111l0) Go.Proofs.Try.f111 (fillT g111tp ls).1 (fillB g111bp (fillT g111tp ls).2).1 k := by kernel_rfl
theorem g111Calls (m : Nat) : (g111h m).CallsOk Go.Proofs.Try.prog := cok_nil
theorem g111l0Ok (m : Nat) (α : Type) (st : St) (k : Ex → St → Option α) (r : α) (h : (g111h m).loop 0 st k = some r) :
    ∃ e st', k e st' = some r ∧ CodeS Go.Proofs.Try.prog (.block 0 (.loop (bodyAt Go.Proofs.Try.f111 0))) st e st' :=
  loop_ok (tab := tab) (h := g111h m) (F := fun n ls k => g111l0K (fun a346 a347 k356 k357 v345 => g111l0 a346 a347 k356 k357 n v345) ls k) tabOk (g111Calls m) mixed (loopsOk_of _ (fun p hp => by rw [show loopsOf (bodyAt Go.Proofs.Try.f111 0) = [] by kernel_rfl] at hp; cases hp))
    (fun _ _ => rfl) (fun n ls k => g111l0Step (g111l0M m) (fun a346 a347 k356 k357 => g111l0 a346 a347 k356 k357 n) ls k) (n := m) h
theorem g111Fn (m : Nat) : FnOk Go.Proofs.Try.prog 111 g111tp g111bp (fun {α} => g111K (g111 (α := α) m)) :=
  fn_ok (tab := tab) (h := g111h m) (fn := Go.Proofs.Try.f111) (F := fun {α} => g111K (g111 (α := α) m)) tabOk (g111Calls m) mixed (by kernel_rfl) (by kernel_rfl) (fun c hc => by
    rw [bodyOf_some hc]
    exact loopsOk_of _ (fun p hp => by
    rw [show loopsOf (bodyOf Go.Proofs.Try.f111) = [(0, bodyAt Go.Proofs.Try.f111 0)] by kernel_rfl] at hp
    simp only [List.mem_cons, List.not_mem_nil, or_false] at hp
    rcases hp with rfl
    exact g111l0Ok m))
    (fun α ls k => g111Main (g111l0M m) ls k)
theorem g111Ok (m : Nat) : RowOk Go.Proofs.Try.prog 111 (fun {α} => rowK g111tp g111bp (g111K (g111 (α := α) m))) := row_of (g111Fn m)

/-! ### g89: impl.compare -/
def g89b {α : Type} (G_g111 : {α : Type} → (List Int) → (List Int) → (Int → Option α) → Option α)  (q337 : Bool) (u338 : List Int) (q339 : Bool) (u340 : List Int) (k366 : Int → Option α) : Option α :=
  cond (!(q337 == q339))
   (
    cond q337
     (
      k366 (-1 : Int))
     (
      cond (!(q337 == q339))
       (
        k366 (1 : Int))
       (
        cond q337
         (
          G_g111 u340 u338
            (fun x361 =>
              k366 x361))
         (
          G_g111 u338 u340
            (fun x362 =>
              k366 x362)))))
   (
    cond (!(q337 == q339))
     (
      k366 (1 : Int))
     (
      cond q337
       (
        G_g111 u340 u338
          (fun x364 =>
            k366 x364))
       (
        G_g111 u338 u340
          (fun x365 =>
            k366 x365))))
def g89 {α : Type} (m : Nat) : Bool → (List Int) → Bool → (List Int) → (Int → Option α) → Option α :=
  g89b (g111 m)
def g89tp : List TP := [(.vl (.agg [(.one .bool), (.seq (.int .u32) 6)])), (.vl (.agg [(.one .bool), (.seq (.int .u32) 6)]))]
def g89bp : List BP := []
def g89K {α : Type} (G : Bool → (List Int) → Bool → (List Int) → (Int → Option α) → Option α) (ls : List Lf) (k : TV → List (List Seg) → List (List Seg) → Option α) : Option α :=
  G (lf ls 0).bool ((lf ls 1).lst (.int .u32)) (lf ls 2).bool ((lf ls 3).lst (.int .u32))
    (fun y0 => k (.vl (.sv (.int .i64 y0))) [] [])
def g89hd (G_g111 : {α : Type} → (List Int) → (List Int) → (Int → Option α) → Option α)  : Hd where
  call := fun f args Bs k => cond (Nat.beq f 111) (rowK g111tp g111bp (g111K G_g111) args Bs k) (none)
  loop := fun id st k => none
  ro := fun f => []
def g89h (m : Nat) : Hd := g89hd (g111 m)
theorem g89Main (G_g111 : {α : Type} → (List Int) → (List Int) → (Int → Option α) → Option α)  {α : Type} (ls : List Lf) (k : TV → List (List Seg) → List (List Seg) → Option α) :
    g89K (g89b G_g111) ls k = evFun tab (g89hd G_g111) Go.Proofs.Try.f89 (fillT g89tp ls).1 (fillB g89bp (fillT g89tp ls).2).1 k := by kernel_rfl
theorem g89Calls (m : Nat) : (g89h m).CallsOk Go.Proofs.Try.prog := (cok_cons (g111Ok m) cok_nil)
theorem g89Fn (m : Nat) : FnOk Go.Proofs.Try.prog 89 g89tp g89bp (fun {α} => g89K (g89 (α := α) m)) :=
  fn_ok (tab := tab) (h := g89h m) (fn := Go.Proofs.Try.f89) (F := fun {α} => g89K (g89 (α := α) m)) tabOk (g89Calls m) mixed (by kernel_rfl) (by kernel_rfl) (fun c hc => by
    rw [bodyOf_some hc]
    exact loopsOk_of _ (fun p hp => by rw [show loopsOf (bodyOf Go.Proofs.Try.f89) = [] by kernel_rfl] at hp; cases hp))
    (fun α ls k => g89Main (g111 m) ls k)
theorem g89Ok (m : Nat) : RowOk Go.Proofs.Try.prog 89 (fun {α} => rowK g89tp g89bp (g89K (g89 (α := α) m))) := row_of (g89Fn m)

/-! ### g45: impl.CompareWides -/
def g45b {α : Type} (G_g24 : {α : Type} → Bool → (List Int) → (Bool → Option α) → Option α) (G_g89 : {α : Type} → Bool → (List Int) → Bool → (List Int) → (Int → Option α) → Option α)  (q329 : Bool) (u330 : List Int) (q331 : Bool) (u332 : List Int) (k368 : Int → Int → Option α) : Option α :=
  G_g24 q329 u330
    (fun b333 =>
      cond (!b333)
       (
        k368 (0 : Int) (1 : Int))
       (
        G_g24 q331 u332
          (fun b335 =>
            cond (!b335)
             (
              k368 (0 : Int) (1 : Int))
             (
              G_g89 q329 u330 q331 u332
                (fun x367 =>
                  k368 x367 (0 : Int))))))
def g45 {α : Type} (m : Nat) : Bool → (List Int) → Bool → (List Int) → (Int → Int → Option α) → Option α :=
  g45b (g24 m) (g89 m)
def g45tp : List TP := [(.vl (.agg [(.one .bool), (.seq (.int .u32) 6)])), (.vl (.agg [(.one .bool), (.seq (.int .u32) 6)]))]
def g45bp : List BP := []
def g45K {α : Type} (G : Bool → (List Int) → Bool → (List Int) → (Int → Int → Option α) → Option α) (ls : List Lf) (k : TV → List (List Seg) → List (List Seg) → Option α) : Option α :=
  G (lf ls 0).bool ((lf ls 1).lst (.int .u32)) (lf ls 2).bool ((lf ls 3).lst (.int .u32))
    (fun y0 y1 => k (.tup [(.sv (.int .i64 y0)), (.sv (.int .i64 y1))]) [] [])
def g45hd (G_g24 : {α : Type} → Bool → (List Int) → (Bool → Option α) → Option α) (G_g89 : {α : Type} → Bool → (List Int) → Bool → (List Int) → (Int → Option α) → Option α)  : Hd where
  call := fun f args Bs k => cond (Nat.beq f 24) (rowK g24tp g24bp (g24K G_g24) args Bs k) (cond (Nat.beq f 89) (rowK g89tp g89bp (g89K G_g89) args Bs k) (none))
  loop := fun id st k => none
  ro := fun f => []
def g45h (m : Nat) : Hd := g45hd (g24 m) (g89 m)
theorem g45Main (G_g24 : {α : Type} → Bool → (List Int) → (Bool → Option α) → Option α) (G_g89 : {α : Type} → Bool → (List Int) → Bool → (List Int) → (Int → Option α) → Option α)  {α : Type} (ls : List Lf) (k : TV → List (List Seg) → List (List Seg) → Option α) :
    g45K (g45b G_g24 G_g89) ls k = evFun tab (g45hd G_g24 G_g89) Go.Proofs.Try.f45 (fillT g45tp ls).1 (fillB g45bp (fillT g45tp ls).2).1 k := by kernel_rfl
theorem g45Calls (m : Nat) : (g45h m).CallsOk Go.Proofs.Try.prog := (cok_cons (g24Ok m) (cok_cons (g89Ok m) cok_nil))
theorem g45Fn (m : Nat) : FnOk Go.Proofs.Try.prog 45 g45tp g45bp (fun {α} => g45K (g45 (α := α) m)) :=
  fn_ok (tab := tab) (h := g45h m) (fn := Go.Proofs.Try.f45) (F := fun {α} => g45K (g45 (α := α) m)) tabOk (g45Calls m) mixed (by kernel_rfl) (by kernel_rfl) (fun c hc => by
    rw [bodyOf_some hc]
    exact loopsOk_of _ (fun p hp => by rw [show loopsOf (bodyOf Go.Proofs.Try.f45) = [] by kernel_rfl] at hp; cases hp))
    (fun α ls k => g45Main (g24 m) (g89 m) ls k)
theorem g45Ok (m : Nat) : RowOk Go.Proofs.Try.prog 45 (fun {α} => rowK g45tp g45bp (g45K (g45 (α := α) m))) := row_of (g45Fn m)

/-! ### g9: laws.FnExactCompareWides -/
def g9b {α : Type} (G_g23 : {α : Type} → Bool → (List Int) → ((List Int) → Option α) → Option α) (G_g38 : {α : Type} → Bool → (List Int) → Bool → (List Int) → (Int → Int → Option α) → Option α) (G_g45 : {α : Type} → Bool → (List Int) → Bool → (List Int) → (Int → Int → Option α) → Option α)  (q275 : Bool) (u276 : List Int) (q277 : Bool) (u278 : List Int) (k373 : Bool → Option α) : Option α :=
  G_g23 q275 u276
    (fun l279 =>
      G_g23 q277 u278
        (fun l280 =>
          G_g38 q275 l279 q277 l280
            (fun x325 x326 =>
              G_g23 q275 u276
                (fun l327 =>
                  G_g23 q277 u278
                    (fun l328 =>
                      G_g45 q275 l327 q277 l328
                        (fun x369 x370 =>
                          cond (x369 != x325)
                           (
                            k373 false)
                           (
                            cond (x370 != x326)
                             (
                              k373 false)
                             (
                              k373 true))))))))
def g9 {α : Type} (m : Nat) : Bool → (List Int) → Bool → (List Int) → (Bool → Option α) → Option α :=
  g9b (g23 m) (g38 m) (g45 m)
def g9tp : List TP := [(.vl (.agg [(.one .bool), (.seq (.int .u32) 6)])), (.vl (.agg [(.one .bool), (.seq (.int .u32) 6)]))]
def g9bp : List BP := []
def g9K {α : Type} (G : Bool → (List Int) → Bool → (List Int) → (Bool → Option α) → Option α) (ls : List Lf) (k : TV → List (List Seg) → List (List Seg) → Option α) : Option α :=
  G (lf ls 0).bool ((lf ls 1).lst (.int .u32)) (lf ls 2).bool ((lf ls 3).lst (.int .u32))
    (fun y0 => k (.vl (.sv (.bool y0))) [] [])
def g9hd (G_g23 : {α : Type} → Bool → (List Int) → ((List Int) → Option α) → Option α) (G_g38 : {α : Type} → Bool → (List Int) → Bool → (List Int) → (Int → Int → Option α) → Option α) (G_g45 : {α : Type} → Bool → (List Int) → Bool → (List Int) → (Int → Int → Option α) → Option α)  : Hd where
  call := fun f args Bs k => cond (Nat.beq f 23) (rowK g23tp g23bp (g23K G_g23) args Bs k) (cond (Nat.beq f 38) (rowK g38tp g38bp (g38K G_g38) args Bs k) (cond (Nat.beq f 45) (rowK g45tp g45bp (g45K G_g45) args Bs k) (none)))
  loop := fun id st k => none
  ro := fun f => []
def g9h (m : Nat) : Hd := g9hd (g23 m) (g38 m) (g45 m)
theorem g9Main (G_g23 : {α : Type} → Bool → (List Int) → ((List Int) → Option α) → Option α) (G_g38 : {α : Type} → Bool → (List Int) → Bool → (List Int) → (Int → Int → Option α) → Option α) (G_g45 : {α : Type} → Bool → (List Int) → Bool → (List Int) → (Int → Int → Option α) → Option α)  {α : Type} (ls : List Lf) (k : TV → List (List Seg) → List (List Seg) → Option α) :
    g9K (g9b G_g23 G_g38 G_g45) ls k = evFun tab (g9hd G_g23 G_g38 G_g45) Go.Proofs.Try.f9 (fillT g9tp ls).1 (fillB g9bp (fillT g9tp ls).2).1 k := by kernel_rfl
theorem g9Calls (m : Nat) : (g9h m).CallsOk Go.Proofs.Try.prog := (cok_cons (g23Ok m) (cok_cons (g38Ok m) (cok_cons (g45Ok m) cok_nil)))
theorem g9Fn (m : Nat) : FnOk Go.Proofs.Try.prog 9 g9tp g9bp (fun {α} => g9K (g9 (α := α) m)) :=
  fn_ok (tab := tab) (h := g9h m) (fn := Go.Proofs.Try.f9) (F := fun {α} => g9K (g9 (α := α) m)) tabOk (g9Calls m) mixed (by kernel_rfl) (by kernel_rfl) (fun c hc => by
    rw [bodyOf_some hc]
    exact loopsOk_of _ (fun p hp => by rw [show loopsOf (bodyOf Go.Proofs.Try.f9) = [] by kernel_rfl] at hp; cases hp))
    (fun α ls k => g9Main (g23 m) (g38 m) (g45 m) ls k)
theorem g9Ok (m : Nat) : RowOk Go.Proofs.Try.prog 9 (fun {α} => rowK g9tp g9bp (g9K (g9 (α := α) m))) := row_of (g9Fn m)

/-! ### g112: spec.l01Plus -/
def g112l0b {α : Type}   (a397 : List Int) (a398 : List Int) (a399 : List Int) (k412 : Int → (List Int) → Option α) (r413 : Int → Int → (List Int) → Option α) (v395 : Int) (v396 : Int) (a400 : List Int) : Option α :=
  cond (decide (v396 < (6 : Int)))
   (
    if 0 ≤ v396 ∧ v396 < (6 : Nat) then
      if v396.toNat < 6 then
        if 0 ≤ v396 ∧ v396 < (6 : Nat) then
          if v396.toNat < 6 then
            let x407 : Int := IntKind.wrap .u64 ((IntKind.wrap .u64 ((IntKind.wrap .u64 (List.getD a397 v396.toNat 0)) + (IntKind.wrap .u64 (List.getD a398 v396.toNat 0)))) + v395)
            if 0 ≤ v396 ∧ v396 < (6 : Nat) then
              if v396.toNat < 6 then
                r413 (Int.fdiv x407 (2 ^ 32)) (IntKind.wrap .i64 (v396 + (1 : Int))) (List.set a400 (v396.toNat) (IntKind.wrap .u32 x407))
              else
                none
            else
              none
          else
            none
        else
          none
      else
        none
    else
      none)
   (
    k412 v395 a400)
def g112l0 {α : Type}   (a397 : List Int) (a398 : List Int) (a399 : List Int) (k412 : Int → (List Int) → Option α) : Nat → Int → Int → (List Int) → Option α
  | 0 => fun _ _ _ => none
  | m + 1 => fun v395 v396 a400 => g112l0b a397 a398 a399 k412 (g112l0 a397 a398 a399 k412 m) v395 v396 a400
def g112l0M {α : Type} (m : Nat) : (List Int) → (List Int) → (List Int) → (Int → (List Int) → Option α) → Int → Int → (List Int) → Option α :=
  fun a397 a398 a399 k412 v395 v396 a400 => g112l0 a397 a398 a399 k412 m v395 v396 a400
def g112l0D : LoopD := { n := 39, sl := [0, 1, 4, 6, 7, 8], bl := [0, 1, 1004, 1006], tp := [(.vl (.sv (.ptr 0 0))), (.vl (.sv (.ptr 1 0))), (.vl (.sv (.ptr 1004 0))), (.vl (.sv (.ptr 1006 0))), (.vl (.sv (.int .u64))), (.vl (.sv (.int .i64)))], bp := [(false, [(.seq (.int .u32) 6)]), (false, [(.seq (.int .u32) 6)]), (true, [(.seq (.int .u32) 6)]), (true, [(.seq (.int .u32) 6)])], xs := [(2, [4, 6, 7], [0, 1, 1004, 1006])] }
def g112l0K {α : Type} (L : (List Int) → (List Int) → (List Int) → (Int → (List Int) → Option α) → Int → Int → (List Int) → Option α) (ls : List Lf) (k : Ex → St → Option α) : Option α :=
  L ((lf ls 2).lst (.int .u32)) ((lf ls 3).lst (.int .u32)) ((lf ls 4).lst (.int .u32))
    (fun y0 y4 => k .normal (mkSt 39 [4, 6, 7] [(.vl (.sv (.ptr 1004 0))), (.vl (.sv (.ptr 1006 0))), (.vl (.sv (.int .u64 y0)))] [0, 1, 1004, 1006] [(false, [(.seq (.int .u32) 6 ((lf ls 2).lst (.int .u32)))]), (false, [(.seq (.int .u32) 6 ((lf ls 3).lst (.int .u32)))]), (true, [(.seq (.int .u32) 6 ((lf ls 4).lst (.int .u32)))]), (true, [(.seq (.int .u32) 6 y4)])]))
    (lf ls 0).int (lf ls 1).int ((lf ls 5).lst (.int .u32))
def g112b {α : Type}  (L_g112l0 : {α : Type} → (List Int) → (List Int) → (List Int) → (Int → (List Int) → Option α) → Int → Int → (List Int) → Option α) (u393 : List Int) (u394 : List Int) (k417 : (List Int) → Bool → Option α) : Option α :=
  L_g112l0 u393 u394 [0, 0, 0, 0, 0, 0]
    (fun x414 l415 =>
      k417 l415 (x414 == (0 : Int)))
    (0 : Int) (0 : Int) [0, 0, 0, 0, 0, 0]
def g112 {α : Type} (m : Nat) : (List Int) → (List Int) → ((List Int) → Bool → Option α) → Option α :=
  g112b (g112l0M m)
def g112tp : List TP := [(.vl (.sv (.ptr 0 0))), (.vl (.sv (.ptr 1 0)))]
def g112bp : List BP := [(false, [(.seq (.int .u32) 6)]), (false, [(.seq (.int .u32) 6)])]
def g112K {α : Type} (G : (List Int) → (List Int) → ((List Int) → Bool → Option α) → Option α) (ls : List Lf) (k : TV → List (List Seg) → List (List Seg) → Option α) : Option α :=
  G ((lf ls 0).lst (.int .u32)) ((lf ls 1).lst (.int .u32))
    (fun y0 y1 => k (.tup [(.agg [(.seq (.int .u32) 6 y0)]), (.sv (.bool y1))]) [[(.seq (.int .u32) 6 ((lf ls 0).lst (.int .u32)))], [(.seq (.int .u32) 6 ((lf ls 1).lst (.int .u32)))]] [])
def g112hd  (L_g112l0 : {α : Type} → (List Int) → (List Int) → (List Int) → (Int → (List Int) → Option α) → Int → Int → (List Int) → Option α) : Hd where
  call := fun f args Bs k => none
  loop := fun id st k => cond (Nat.beq id 0) (loopH g112l0D (g112l0K L_g112l0) st k) (none)
  ro := fun f => []
def g112h (m : Nat) : Hd := g112hd (g112l0M m)
theorem g112l0Step  (L_g112l0 : {α : Type} → (List Int) → (List Int) → (List Int) → (Int → (List Int) → Option α) → Int → Int → (List Int) → Option α) {α : Type} (L : (List Int) → (List Int) → (List Int) → (Int → (List Int) → Option α) → Int → Int → (List Int) → Option α) (ls : List Lf) (k : Ex → St → Option α) :
    g112l0K (fun a397 a398 a399 k412 v395 v396 a400 => g112l0b a397 a398 a399 k412 (L a397 a398 a399 k412) v395 v396 a400) ls k = ev tab (g112hd L_g112l0) (bodyAt Go.Proofs.Try.f112 0) (atHead g112l0D ls) (loopK g112l0D 0 (loopH g112l0D (g112l0K L)) k) := by kernel_rfl
theorem g112Main  (L_g112l0 : {α : Type} → (List Int) → (List Int) → (List Int) → (Int → (List Int) → Option α) → Int → Int → (List Int) → Option α) {α : Type} (ls : List Lf) (k : TV → List (List Seg) → List (List Seg) → Option α) :
    g112K (g112b L_g112l0) ls k = evFun tab (g112hd L_g112l0) Go.Proofs.Try.f112 (fillT g112tp ls).1 (fillB g112bp (fillT g112tp ls).2).1 k := by kernel_rfl
theorem g112Calls (m : Nat) : (g112h m).CallsOk Go.Proofs.Try.prog := cok_nil
theorem g112l0Ok (m : Nat) (α : Type) (st : St) (k : Ex → St → Option α) (r : α) (h : (g112h m).loop 0 st k = some r) :
    ∃ e st', k e st' = some r ∧ CodeS Go.Proofs.Try.prog (.block 0 (.loop (bodyAt Go.Proofs.Try.f112 0))) st e st' :=
  loop_ok (tab := tab) (h := g112h m) (F := fun n ls k => g112l0K (fun a397 a398 a399 k412 v395 v396 a400 => g112l0 a397 a398 a399 k412 n v395 v396 a400) ls k) tabOk (g112Calls m) mixed (loopsOk_of _ (fun p hp => by rw [show loopsOf (bodyAt Go.Proofs.Try.f112 0) = [] by kernel_rfl] at hp; cases hp))
    (fun _ _ => rfl) (fun n ls k => g112l0Step (g112l0M m) (fun a397 a398 a399 k412 => g112l0 a397 a398 a399 k412 n) ls k) (n := m) h
theorem g112Fn (m : Nat) : FnOk Go.Proofs.Try.prog 112 g112tp g112bp (fun {α} => g112K (g112 (α := α) m)) :=
  fn_ok (tab := tab) (h := g112h m) (fn := Go.Proofs.Try.f112) (F := fun {α} => g112K (g112 (α := α) m)) tabOk (g112Calls m) mixed (by kernel_rfl) (by kernel_rfl) (fun c hc => by
    rw [bodyOf_some hc]
    exact loopsOk_of _ (fun p hp => by
    rw [show loopsOf (bodyOf Go.Proofs.Try.f112) = [(0, bodyAt Go.Proofs.Try.f112 0)] by kernel_rfl] at hp
    simp only [List.mem_cons, List.not_mem_nil, or_false] at hp
    rcases hp with rfl
    exact g112l0Ok m))
    (fun α ls k => g112Main (g112l0M m) ls k)
theorem g112Ok (m : Nat) : RowOk Go.Proofs.Try.prog 112 (fun {α} => rowK g112tp g112bp (g112K (g112 (α := α) m))) := row_of (g112Fn m)

/-! ### g113: spec.l01Minus -/
def g113l0b {α : Type}   (a428 : List Int) (a429 : List Int) (a430 : List Int) (k447 : (List Int) → Option α) (r448 : Int → Int → (List Int) → Option α) (v426 : Int) (v427 : Int) (a431 : List Int) : Option α :=
  cond (decide (v427 < (6 : Int)))
   (
    if 0 ≤ v427 ∧ v427 < (6 : Nat) then
      if v427.toNat < 6 then
        if 0 ≤ v427 ∧ v427 < (6 : Nat) then
          if v427.toNat < 6 then
            let x438 : Int := IntKind.wrap .i64 ((IntKind.wrap .i64 ((IntKind.wrap .i64 (List.getD a428 v427.toNat 0)) - (IntKind.wrap .i64 (List.getD a429 v427.toNat 0)))) - v426)
            cond (decide (x438 < (0 : Int)))
             (
              if 0 ≤ v427 ∧ v427 < (6 : Nat) then
                if v427.toNat < 6 then
                  r448 (1 : Int) (IntKind.wrap .i64 (v427 + (1 : Int))) (List.set a431 (v427.toNat) (IntKind.wrap .u32 (IntKind.wrap .i64 (x438 + (4294967296 : Int)))))
                else
                  none
              else
                none)
             (
              if 0 ≤ v427 ∧ v427 < (6 : Nat) then
                if v427.toNat < 6 then
                  r448 (0 : Int) (IntKind.wrap .i64 (v427 + (1 : Int))) (List.set a431 (v427.toNat) (IntKind.wrap .u32 x438))
                else
                  none
              else
                none)
          else
            none
        else
          none
      else
        none
    else
      none)
   (
    k447 a431)
def g113l0 {α : Type}   (a428 : List Int) (a429 : List Int) (a430 : List Int) (k447 : (List Int) → Option α) : Nat → Int → Int → (List Int) → Option α
  | 0 => fun _ _ _ => none
  | m + 1 => fun v426 v427 a431 => g113l0b a428 a429 a430 k447 (g113l0 a428 a429 a430 k447 m) v426 v427 a431
def g113l0M {α : Type} (m : Nat) : (List Int) → (List Int) → (List Int) → ((List Int) → Option α) → Int → Int → (List Int) → Option α :=
  fun a428 a429 a430 k447 v426 v427 a431 => g113l0 a428 a429 a430 k447 m v426 v427 a431
def g113l0D : LoopD := { n := 38, sl := [0, 1, 4, 5, 6, 7], bl := [0, 1, 1004, 1005], tp := [(.vl (.sv (.ptr 0 0))), (.vl (.sv (.ptr 1 0))), (.vl (.sv (.ptr 1004 0))), (.vl (.sv (.ptr 1005 0))), (.vl (.sv (.int .i64))), (.vl (.sv (.int .i64)))], bp := [(false, [(.seq (.int .u32) 6)]), (false, [(.seq (.int .u32) 6)]), (true, [(.seq (.int .u32) 6)]), (true, [(.seq (.int .u32) 6)])], xs := [(2, [4, 5], [0, 1, 1004, 1005])] }
def g113l0K {α : Type} (L : (List Int) → (List Int) → (List Int) → ((List Int) → Option α) → Int → Int → (List Int) → Option α) (ls : List Lf) (k : Ex → St → Option α) : Option α :=
  L ((lf ls 2).lst (.int .u32)) ((lf ls 3).lst (.int .u32)) ((lf ls 4).lst (.int .u32))
    (fun y3 => k .normal (mkSt 38 [4, 5] [(.vl (.sv (.ptr 1004 0))), (.vl (.sv (.ptr 1005 0)))] [0, 1, 1004, 1005] [(false, [(.seq (.int .u32) 6 ((lf ls 2).lst (.int .u32)))]), (false, [(.seq (.int .u32) 6 ((lf ls 3).lst (.int .u32)))]), (true, [(.seq (.int .u32) 6 ((lf ls 4).lst (.int .u32)))]), (true, [(.seq (.int .u32) 6 y3)])]))
    (lf ls 0).int (lf ls 1).int ((lf ls 5).lst (.int .u32))
def g113b {α : Type}  (L_g113l0 : {α : Type} → (List Int) → (List Int) → (List Int) → ((List Int) → Option α) → Int → Int → (List Int) → Option α) (u424 : List Int) (u425 : List Int) (k450 : (List Int) → Option α) : Option α :=
  L_g113l0 u424 u425 [0, 0, 0, 0, 0, 0]
    (fun l449 =>
      k450 l449)
    (0 : Int) (0 : Int) [0, 0, 0, 0, 0, 0]
def g113 {α : Type} (m : Nat) : (List Int) → (List Int) → ((List Int) → Option α) → Option α :=
  g113b (g113l0M m)
def g113tp : List TP := [(.vl (.sv (.ptr 0 0))), (.vl (.sv (.ptr 1 0)))]
def g113bp : List BP := [(false, [(.seq (.int .u32) 6)]), (false, [(.seq (.int .u32) 6)])]
def g113K {α : Type} (G : (List Int) → (List Int) → ((List Int) → Option α) → Option α) (ls : List Lf) (k : TV → List (List Seg) → List (List Seg) → Option α) : Option α :=
  G ((lf ls 0).lst (.int .u32)) ((lf ls 1).lst (.int .u32))
    (fun y0 => k (.vl (.agg [(.seq (.int .u32) 6 y0)])) [[(.seq (.int .u32) 6 ((lf ls 0).lst (.int .u32)))], [(.seq (.int .u32) 6 ((lf ls 1).lst (.int .u32)))]] [])
def g113hd  (L_g113l0 : {α : Type} → (List Int) → (List Int) → (List Int) → ((List Int) → Option α) → Int → Int → (List Int) → Option α) : Hd where
  call := fun f args Bs k => none
  loop := fun id st k => cond (Nat.beq id 0) (loopH g113l0D (g113l0K L_g113l0) st k) (none)
  ro := fun f => []
def g113h (m : Nat) : Hd := g113hd (g113l0M m)
theorem g113l0Step  (L_g113l0 : {α : Type} → (List Int) → (List Int) → (List Int) → ((List Int) → Option α) → Int → Int → (List Int) → Option α) {α : Type} (L : (List Int) → (List Int) → (List Int) → ((List Int) → Option α) → Int → Int → (List Int) → Option α) (ls : List Lf) (k : Ex → St → Option α) :
    g113l0K (fun a428 a429 a430 k447 v426 v427 a431 => g113l0b a428 a429 a430 k447 (L a428 a429 a430 k447) v426 v427 a431) ls k = ev tab (g113hd L_g113l0) (bodyAt Go.Proofs.Try.f113 0) (atHead g113l0D ls) (loopK g113l0D 0 (loopH g113l0D (g113l0K L)) k) := by kernel_rfl
theorem g113Main  (L_g113l0 : {α : Type} → (List Int) → (List Int) → (List Int) → ((List Int) → Option α) → Int → Int → (List Int) → Option α) {α : Type} (ls : List Lf) (k : TV → List (List Seg) → List (List Seg) → Option α) :
    g113K (g113b L_g113l0) ls k = evFun tab (g113hd L_g113l0) Go.Proofs.Try.f113 (fillT g113tp ls).1 (fillB g113bp (fillT g113tp ls).2).1 k := by kernel_rfl
theorem g113Calls (m : Nat) : (g113h m).CallsOk Go.Proofs.Try.prog := cok_nil
theorem g113l0Ok (m : Nat) (α : Type) (st : St) (k : Ex → St → Option α) (r : α) (h : (g113h m).loop 0 st k = some r) :
    ∃ e st', k e st' = some r ∧ CodeS Go.Proofs.Try.prog (.block 0 (.loop (bodyAt Go.Proofs.Try.f113 0))) st e st' :=
  loop_ok (tab := tab) (h := g113h m) (F := fun n ls k => g113l0K (fun a428 a429 a430 k447 v426 v427 a431 => g113l0 a428 a429 a430 k447 n v426 v427 a431) ls k) tabOk (g113Calls m) mixed (loopsOk_of _ (fun p hp => by rw [show loopsOf (bodyAt Go.Proofs.Try.f113 0) = [] by kernel_rfl] at hp; cases hp))
    (fun _ _ => rfl) (fun n ls k => g113l0Step (g113l0M m) (fun a428 a429 a430 k447 => g113l0 a428 a429 a430 k447 n) ls k) (n := m) h
theorem g113Fn (m : Nat) : FnOk Go.Proofs.Try.prog 113 g113tp g113bp (fun {α} => g113K (g113 (α := α) m)) :=
  fn_ok (tab := tab) (h := g113h m) (fn := Go.Proofs.Try.f113) (F := fun {α} => g113K (g113 (α := α) m)) tabOk (g113Calls m) mixed (by kernel_rfl) (by kernel_rfl) (fun c hc => by
    rw [bodyOf_some hc]
    exact loopsOk_of _ (fun p hp => by
    rw [show loopsOf (bodyOf Go.Proofs.Try.f113) = [(0, bodyAt Go.Proofs.Try.f113 0)] by kernel_rfl] at hp
    simp only [List.mem_cons, List.not_mem_nil, or_false] at hp
    rcases hp with rfl
    exact g113l0Ok m))
    (fun α ls k => g113Main (g113l0M m) ls k)
theorem g113Ok (m : Nat) : RowOk Go.Proofs.Try.prog 113 (fun {α} => rowK g113tp g113bp (g113K (g113 (α := α) m))) := row_of (g113Fn m)

/-! ### g81: spec.l01Add -/
def g81b {α : Type} (G_g112 : {α : Type} → (List Int) → (List Int) → ((List Int) → Bool → Option α) → Option α) (G_g71 : {α : Type} → Bool → (List Int) → (Bool → Option α) → Option α) (G_g115 : {α : Type} → (List Int) → (List Int) → (Int → Option α) → Option α) (G_g113 : {α : Type} → (List Int) → (List Int) → ((List Int) → Option α) → Option α)  (q388 : Bool) (u389 : List Int) (q390 : Bool) (u391 : List Int) (k455 : Bool → (List Int) → Int → Option α) : Option α :=
  cond (q388 == q390)
   (
    G_g112 u389 u391
      (fun l418 b419 =>
        cond (!b419)
         (
          k455 false [0, 0, 0, 0, 0, 0] (3 : Int))
         (
          G_g71 q388 l418
            (fun b421 =>
              k455 b421 l418 (0 : Int)))))
   (
    G_g115 u389 u391
      (fun x422 =>
        cond (decide (x422 ≥ (0 : Int)))
         (
          G_g113 u389 u391
            (fun l451 =>
              G_g71 q388 l451
                (fun b452 =>
                  k455 b452 l451 (0 : Int))))
         (
          G_g113 u391 u389
            (fun l453 =>
              G_g71 q390 l453
                (fun b454 =>
                  k455 b454 l453 (0 : Int))))))
def g81 {α : Type} (m : Nat) : Bool → (List Int) → Bool → (List Int) → (Bool → (List Int) → Int → Option α) → Option α :=
  g81b (g112 m) (g71 m) (g115 m) (g113 m)
def g81tp : List TP := [(.vl (.agg [(.one .bool), (.seq (.int .u32) 6)])), (.vl (.agg [(.one .bool), (.seq (.int .u32) 6)]))]
def g81bp : List BP := []
def g81K {α : Type} (G : Bool → (List Int) → Bool → (List Int) → (Bool → (List Int) → Int → Option α) → Option α) (ls : List Lf) (k : TV → List (List Seg) → List (List Seg) → Option α) : Option α :=
  G (lf ls 0).bool ((lf ls 1).lst (.int .u32)) (lf ls 2).bool ((lf ls 3).lst (.int .u32))
    (fun y0 y1 y2 => k (.tup [(.agg [(.one (.bool y0)), (.seq (.int .u32) 6 y1)]), (.sv (.int .i64 y2))]) [] [])
def g81hd (G_g112 : {α : Type} → (List Int) → (List Int) → ((List Int) → Bool → Option α) → Option α) (G_g71 : {α : Type} → Bool → (List Int) → (Bool → Option α) → Option α) (G_g115 : {α : Type} → (List Int) → (List Int) → (Int → Option α) → Option α) (G_g113 : {α : Type} → (List Int) → (List Int) → ((List Int) → Option α) → Option α)  : Hd where
  call := fun f args Bs k => cond (Nat.beq f 112) (rowK g112tp g112bp (g112K G_g112) args Bs k) (cond (Nat.beq f 71) (rowK g71tp g71bp (g71K G_g71) args Bs k) (cond (Nat.beq f 115) (rowK g115tp g115bp (g115K G_g115) args Bs k) (cond (Nat.beq f 113) (rowK g113tp g113bp (g113K G_g113) args Bs k) (none))))
  loop := fun id st k => none
  ro := fun f => cond (Nat.beq f 112) [0, 1] (cond (Nat.beq f 113) [0, 1] (cond (Nat.beq f 115) [0, 1] ([])))
def g81h (m : Nat) : Hd := g81hd (g112 m) (g71 m) (g115 m) (g113 m)
theorem g81Main (G_g112 : {α : Type} → (List Int) → (List Int) → ((List Int) → Bool → Option α) → Option α) (G_g71 : {α : Type} → Bool → (List Int) → (Bool → Option α) → Option α) (G_g115 : {α : Type} → (List Int) → (List Int) → (Int → Option α) → Option α) (G_g113 : {α : Type} → (List Int) → (List Int) → ((List Int) → Option α) → Option α)  {α : Type} (ls : List Lf) (k : TV → List (List Seg) → List (List Seg) → Option α) :
    g81K (g81b G_g112 G_g71 G_g115 G_g113) ls k = evFun tab (g81hd G_g112 G_g71 G_g115 G_g113) Go.Proofs.Try.f81 (fillT g81tp ls).1 (fillB g81bp (fillT g81tp ls).2).1 k := by kernel_rfl
theorem g81Calls (m : Nat) : (g81h m).CallsOk Go.Proofs.Try.prog := (cok_cons (g112Ok m) (cok_cons (g71Ok m) (cok_cons (g115Ok m) (cok_cons (g113Ok m) cok_nil))))
theorem g81Fn (m : Nat) : FnOk Go.Proofs.Try.prog 81 g81tp g81bp (fun {α} => g81K (g81 (α := α) m)) :=
  fn_ok (tab := tab) (h := g81h m) (fn := Go.Proofs.Try.f81) (F := fun {α} => g81K (g81 (α := α) m)) tabOk (g81Calls m) mixed (by kernel_rfl) (by kernel_rfl) (fun c hc => by
    rw [bodyOf_some hc]
    exact loopsOk_of _ (fun p hp => by rw [show loopsOf (bodyOf Go.Proofs.Try.f81) = [] by kernel_rfl] at hp; cases hp))
    (fun α ls k => g81Main (g112 m) (g71 m) (g115 m) (g113 m) ls k)
theorem g81Ok (m : Nat) : RowOk Go.Proofs.Try.prog 81 (fun {α} => rowK g81tp g81bp (g81K (g81 (α := α) m))) := row_of (g81Fn m)

/-! ### g37: spec.AddWides -/
def g37b {α : Type} (G_g64 : {α : Type} → Bool → (List Int) → (Bool → Option α) → Option α) (G_g81 : {α : Type} → Bool → (List Int) → Bool → (List Int) → (Bool → (List Int) → Int → Option α) → Option α)  (q380 : Bool) (u381 : List Int) (q382 : Bool) (u383 : List Int) (k459 : Bool → (List Int) → Int → Option α) : Option α :=
  G_g64 q380 u381
    (fun b384 =>
      cond (!b384)
       (
        k459 false [0, 0, 0, 0, 0, 0] (1 : Int))
       (
        G_g64 q382 u383
          (fun b386 =>
            cond (!b386)
             (
              k459 false [0, 0, 0, 0, 0, 0] (1 : Int))
             (
              G_g81 q380 u381 q382 u383
                (fun b456 l457 x458 =>
                  k459 b456 l457 x458)))))
def g37 {α : Type} (m : Nat) : Bool → (List Int) → Bool → (List Int) → (Bool → (List Int) → Int → Option α) → Option α :=
  g37b (g64 m) (g81 m)
def g37tp : List TP := [(.vl (.agg [(.one .bool), (.seq (.int .u32) 6)])), (.vl (.agg [(.one .bool), (.seq (.int .u32) 6)]))]
def g37bp : List BP := []
def g37K {α : Type} (G : Bool → (List Int) → Bool → (List Int) → (Bool → (List Int) → Int → Option α) → Option α) (ls : List Lf) (k : TV → List (List Seg) → List (List Seg) → Option α) : Option α :=
  G (lf ls 0).bool ((lf ls 1).lst (.int .u32)) (lf ls 2).bool ((lf ls 3).lst (.int .u32))
    (fun y0 y1 y2 => k (.tup [(.agg [(.one (.bool y0)), (.seq (.int .u32) 6 y1)]), (.sv (.int .i64 y2))]) [] [])
def g37hd (G_g64 : {α : Type} → Bool → (List Int) → (Bool → Option α) → Option α) (G_g81 : {α : Type} → Bool → (List Int) → Bool → (List Int) → (Bool → (List Int) → Int → Option α) → Option α)  : Hd where
  call := fun f args Bs k => cond (Nat.beq f 64) (rowK g64tp g64bp (g64K G_g64) args Bs k) (cond (Nat.beq f 81) (rowK g81tp g81bp (g81K G_g81) args Bs k) (none))
  loop := fun id st k => none
  ro := fun f => cond (Nat.beq f 64) [0] ([])
def g37h (m : Nat) : Hd := g37hd (g64 m) (g81 m)
theorem g37Main (G_g64 : {α : Type} → Bool → (List Int) → (Bool → Option α) → Option α) (G_g81 : {α : Type} → Bool → (List Int) → Bool → (List Int) → (Bool → (List Int) → Int → Option α) → Option α)  {α : Type} (ls : List Lf) (k : TV → List (List Seg) → List (List Seg) → Option α) :
    g37K (g37b G_g64 G_g81) ls k = evFun tab (g37hd G_g64 G_g81) Go.Proofs.Try.f37 (fillT g37tp ls).1 (fillB g37bp (fillT g37tp ls).2).1 k := by kernel_rfl
theorem g37Calls (m : Nat) : (g37h m).CallsOk Go.Proofs.Try.prog := (cok_cons (g64Ok m) (cok_cons (g81Ok m) cok_nil))
theorem g37Fn (m : Nat) : FnOk Go.Proofs.Try.prog 37 g37tp g37bp (fun {α} => g37K (g37 (α := α) m)) :=
  fn_ok (tab := tab) (h := g37h m) (fn := Go.Proofs.Try.f37) (F := fun {α} => g37K (g37 (α := α) m)) tabOk (g37Calls m) mixed (by kernel_rfl) (by kernel_rfl) (fun c hc => by
    rw [bodyOf_some hc]
    exact loopsOk_of _ (fun p hp => by rw [show loopsOf (bodyOf Go.Proofs.Try.f37) = [] by kernel_rfl] at hp; cases hp))
    (fun α ls k => g37Main (g64 m) (g81 m) ls k)
theorem g37Ok (m : Nat) : RowOk Go.Proofs.Try.prog 37 (fun {α} => rowK g37tp g37bp (g37K (g37 (α := α) m))) := row_of (g37Fn m)

/-! ### g108: (impl.size).plus -/
def g108l0b {α : Type}   (a484 : List Int) (a485 : List Int) (k497 : Int → (List Int) → Option α) (r498 : Int → Int → (List Int) → Option α) (v481 : Int) (v482 : Int) (a483 : List Int) : Option α :=
  cond (decide (v482 < (6 : Int)))
   (
    if 0 ≤ v482 ∧ v482 < (6 : Nat) then
      if v482.toNat < 6 then
        if 0 ≤ v482 ∧ v482 < (6 : Nat) then
          if v482.toNat < 6 then
            let x492 : Int := IntKind.wrap .u64 (v481 + (IntKind.wrap .u64 ((IntKind.wrap .u64 (List.getD a483 v482.toNat 0)) + (IntKind.wrap .u64 (List.getD a484 v482.toNat 0)))))
            if 0 ≤ v482 ∧ v482 < (6 : Nat) then
              if v482.toNat < 6 then
                r498 (Int.fdiv x492 (2 ^ 32)) (IntKind.wrap .i64 (v482 + (1 : Int))) (List.set a483 (v482.toNat) (IntKind.wrap .u32 x492))
              else
                none
            else
              none
          else
            none
        else
          none
      else
        none
    else
      none)
   (
    k497 v481 a483)
def g108l0 {α : Type}   (a484 : List Int) (a485 : List Int) (k497 : Int → (List Int) → Option α) : Nat → Int → Int → (List Int) → Option α
  | 0 => fun _ _ _ => none
  | m + 1 => fun v481 v482 a483 => g108l0b a484 a485 k497 (g108l0 a484 a485 k497 m) v481 v482 a483
def g108l0M {α : Type} (m : Nat) : (List Int) → (List Int) → (Int → (List Int) → Option α) → Int → Int → (List Int) → Option α :=
  fun a484 a485 k497 v481 v482 a483 => g108l0 a484 a485 k497 m v481 v482 a483
def g108l0D : LoopD := { n := 32, sl := [2, 3, 4, 6, 8], bl := [1002, 1003, 1004], tp := [(.vl (.sv (.ptr 1002 0))), (.vl (.sv (.ptr 1003 0))), (.vl (.sv (.ptr 1004 0))), (.vl (.sv (.int .u64))), (.vl (.sv (.int .i64)))], bp := [(true, [(.seq (.int .u32) 6)]), (true, [(.seq (.int .u32) 6)]), (true, [(.seq (.int .u32) 6)])], xs := [(2, [2, 4, 6], [1002, 1004])] }
def g108l0K {α : Type} (L : (List Int) → (List Int) → (Int → (List Int) → Option α) → Int → Int → (List Int) → Option α) (ls : List Lf) (k : Ex → St → Option α) : Option α :=
  L ((lf ls 3).lst (.int .u32)) ((lf ls 4).lst (.int .u32))
    (fun y0 y1 => k .normal (mkSt 32 [2, 4, 6] [(.vl (.sv (.ptr 1002 0))), (.vl (.sv (.ptr 1004 0))), (.vl (.sv (.int .u64 y0)))] [1002, 1004] [(true, [(.seq (.int .u32) 6 y1)]), (true, [(.seq (.int .u32) 6 ((lf ls 4).lst (.int .u32)))])]))
    (lf ls 0).int (lf ls 1).int ((lf ls 2).lst (.int .u32))
def g108b {α : Type}  (L_g108l0 : {α : Type} → (List Int) → (List Int) → (Int → (List Int) → Option α) → Int → Int → (List Int) → Option α) (u479 : List Int) (u480 : List Int) (k502 : (List Int) → Bool → Option α) : Option α :=
  L_g108l0 u480 [0, 0, 0, 0, 0, 0]
    (fun x499 l500 =>
      k502 l500 (x499 != (0 : Int)))
    (0 : Int) (0 : Int) u479
def g108 {α : Type} (m : Nat) : (List Int) → (List Int) → ((List Int) → Bool → Option α) → Option α :=
  g108b (g108l0M m)
def g108tp : List TP := [(.vl (.agg [(.seq (.int .u32) 6)])), (.vl (.agg [(.seq (.int .u32) 6)]))]
def g108bp : List BP := []
def g108K {α : Type} (G : (List Int) → (List Int) → ((List Int) → Bool → Option α) → Option α) (ls : List Lf) (k : TV → List (List Seg) → List (List Seg) → Option α) : Option α :=
  G ((lf ls 0).lst (.int .u32)) ((lf ls 1).lst (.int .u32))
    (fun y0 y1 => k (.tup [(.agg [(.seq (.int .u32) 6 y0)]), (.sv (.bool y1))]) [] [])
def g108hd  (L_g108l0 : {α : Type} → (List Int) → (List Int) → (Int → (List Int) → Option α) → Int → Int → (List Int) → Option α) : Hd where
  call := fun f args Bs k => none
  loop := fun id st k => cond (Nat.beq id 0) (loopH g108l0D (g108l0K L_g108l0) st k) (none)
  ro := fun f => []
def g108h (m : Nat) : Hd := g108hd (g108l0M m)
theorem g108l0Step  (L_g108l0 : {α : Type} → (List Int) → (List Int) → (Int → (List Int) → Option α) → Int → Int → (List Int) → Option α) {α : Type} (L : (List Int) → (List Int) → (Int → (List Int) → Option α) → Int → Int → (List Int) → Option α) (ls : List Lf) (k : Ex → St → Option α) :
    g108l0K (fun a484 a485 k497 v481 v482 a483 => g108l0b a484 a485 k497 (L a484 a485 k497) v481 v482 a483) ls k = ev tab (g108hd L_g108l0) (bodyAt Go.Proofs.Try.f108 0) (atHead g108l0D ls) (loopK g108l0D 0 (loopH g108l0D (g108l0K L)) k) := by kernel_rfl
theorem g108Main  (L_g108l0 : {α : Type} → (List Int) → (List Int) → (Int → (List Int) → Option α) → Int → Int → (List Int) → Option α) {α : Type} (ls : List Lf) (k : TV → List (List Seg) → List (List Seg) → Option α) :
    g108K (g108b L_g108l0) ls k = evFun tab (g108hd L_g108l0) Go.Proofs.Try.f108 (fillT g108tp ls).1 (fillB g108bp (fillT g108tp ls).2).1 k := by kernel_rfl
theorem g108Calls (m : Nat) : (g108h m).CallsOk Go.Proofs.Try.prog := cok_nil
theorem g108l0Ok (m : Nat) (α : Type) (st : St) (k : Ex → St → Option α) (r : α) (h : (g108h m).loop 0 st k = some r) :
    ∃ e st', k e st' = some r ∧ CodeS Go.Proofs.Try.prog (.block 0 (.loop (bodyAt Go.Proofs.Try.f108 0))) st e st' :=
  loop_ok (tab := tab) (h := g108h m) (F := fun n ls k => g108l0K (fun a484 a485 k497 v481 v482 a483 => g108l0 a484 a485 k497 n v481 v482 a483) ls k) tabOk (g108Calls m) mixed (loopsOk_of _ (fun p hp => by rw [show loopsOf (bodyAt Go.Proofs.Try.f108 0) = [] by kernel_rfl] at hp; cases hp))
    (fun _ _ => rfl) (fun n ls k => g108l0Step (g108l0M m) (fun a484 a485 k497 => g108l0 a484 a485 k497 n) ls k) (n := m) h
theorem g108Fn (m : Nat) : FnOk Go.Proofs.Try.prog 108 g108tp g108bp (fun {α} => g108K (g108 (α := α) m)) :=
  fn_ok (tab := tab) (h := g108h m) (fn := Go.Proofs.Try.f108) (F := fun {α} => g108K (g108 (α := α) m)) tabOk (g108Calls m) mixed (by kernel_rfl) (by kernel_rfl) (fun c hc => by
    rw [bodyOf_some hc]
    exact loopsOk_of _ (fun p hp => by
    rw [show loopsOf (bodyOf Go.Proofs.Try.f108) = [(0, bodyAt Go.Proofs.Try.f108 0)] by kernel_rfl] at hp
    simp only [List.mem_cons, List.not_mem_nil, or_false] at hp
    rcases hp with rfl
    exact g108l0Ok m))
    (fun α ls k => g108Main (g108l0M m) ls k)
theorem g108Ok (m : Nat) : RowOk Go.Proofs.Try.prog 108 (fun {α} => rowK g108tp g108bp (g108K (g108 (α := α) m))) := row_of (g108Fn m)

/-! ### g110: (impl.size).minus -/
def g110l0b {α : Type}   (a514 : List Int) (a515 : List Int) (k527 : (List Int) → Option α) (r528 : Int → Int → (List Int) → Option α) (v511 : Int) (v512 : Int) (a513 : List Int) : Option α :=
  cond (decide (v512 < (6 : Int)))
   (
    if 0 ≤ v512 ∧ v512 < (6 : Nat) then
      if v512.toNat < 6 then
        if 0 ≤ v512 ∧ v512 < (6 : Nat) then
          if v512.toNat < 6 then
            let x522 : Int := IntKind.wrap .u64 ((IntKind.wrap .u64 ((IntKind.wrap .u64 (List.getD a513 v512.toNat 0)) - (IntKind.wrap .u64 (List.getD a514 v512.toNat 0)))) - v511)
            if 0 ≤ v512 ∧ v512 < (6 : Nat) then
              if v512.toNat < 6 then
                r528 (Int.fdiv x522 (2 ^ 63)) (IntKind.wrap .i64 (v512 + (1 : Int))) (List.set a513 (v512.toNat) (IntKind.wrap .u32 x522))
              else
                none
            else
              none
          else
            none
        else
          none
      else
        none
    else
      none)
   (
    k527 a513)
def g110l0 {α : Type}   (a514 : List Int) (a515 : List Int) (k527 : (List Int) → Option α) : Nat → Int → Int → (List Int) → Option α
  | 0 => fun _ _ _ => none
  | m + 1 => fun v511 v512 a513 => g110l0b a514 a515 k527 (g110l0 a514 a515 k527 m) v511 v512 a513
def g110l0M {α : Type} (m : Nat) : (List Int) → (List Int) → ((List Int) → Option α) → Int → Int → (List Int) → Option α :=
  fun a514 a515 k527 v511 v512 a513 => g110l0 a514 a515 k527 m v511 v512 a513
def g110l0D : LoopD := { n := 30, sl := [2, 3, 4, 5, 8], bl := [1002, 1003, 1004], tp := [(.vl (.sv (.ptr 1002 0))), (.vl (.sv (.ptr 1003 0))), (.vl (.sv (.ptr 1004 0))), (.vl (.sv (.int .u64))), (.vl (.sv (.int .i64)))], bp := [(true, [(.seq (.int .u32) 6)]), (true, [(.seq (.int .u32) 6)]), (true, [(.seq (.int .u32) 6)])], xs := [(2, [2, 4], [1002, 1004])] }
def g110l0K {α : Type} (L : (List Int) → (List Int) → ((List Int) → Option α) → Int → Int → (List Int) → Option α) (ls : List Lf) (k : Ex → St → Option α) : Option α :=
  L ((lf ls 3).lst (.int .u32)) ((lf ls 4).lst (.int .u32))
    (fun y0 => k .normal (mkSt 30 [2, 4] [(.vl (.sv (.ptr 1002 0))), (.vl (.sv (.ptr 1004 0)))] [1002, 1004] [(true, [(.seq (.int .u32) 6 y0)]), (true, [(.seq (.int .u32) 6 ((lf ls 4).lst (.int .u32)))])]))
    (lf ls 0).int (lf ls 1).int ((lf ls 2).lst (.int .u32))
def g110b {α : Type}  (L_g110l0 : {α : Type} → (List Int) → (List Int) → ((List Int) → Option α) → Int → Int → (List Int) → Option α) (u509 : List Int) (u510 : List Int) (k530 : (List Int) → Option α) : Option α :=
  L_g110l0 u510 [0, 0, 0, 0, 0, 0]
    (fun l529 =>
      k530 l529)
    (0 : Int) (0 : Int) u509
def g110 {α : Type} (m : Nat) : (List Int) → (List Int) → ((List Int) → Option α) → Option α :=
  g110b (g110l0M m)
def g110tp : List TP := [(.vl (.agg [(.seq (.int .u32) 6)])), (.vl (.agg [(.seq (.int .u32) 6)]))]
def g110bp : List BP := []
def g110K {α : Type} (G : (List Int) → (List Int) → ((List Int) → Option α) → Option α) (ls : List Lf) (k : TV → List (List Seg) → List (List Seg) → Option α) : Option α :=
  G ((lf ls 0).lst (.int .u32)) ((lf ls 1).lst (.int .u32))
    (fun y0 => k (.vl (.agg [(.seq (.int .u32) 6 y0)])) [] [])
def g110hd  (L_g110l0 : {α : Type} → (List Int) → (List Int) → ((List Int) → Option α) → Int → Int → (List Int) → Option α) : Hd where
  call := fun f args Bs k => none
  loop := fun id st k => cond (Nat.beq id 0) (loopH g110l0D (g110l0K L_g110l0) st k) (none)
  ro := fun f => []
def g110h (m : Nat) : Hd := g110hd (g110l0M m)
theorem g110l0Step  (L_g110l0 : {α : Type} → (List Int) → (List Int) → ((List Int) → Option α) → Int → Int → (List Int) → Option α) {α : Type} (L : (List Int) → (List Int) → ((List Int) → Option α) → Int → Int → (List Int) → Option α) (ls : List Lf) (k : Ex → St → Option α) :
    g110l0K (fun a514 a515 k527 v511 v512 a513 => g110l0b a514 a515 k527 (L a514 a515 k527) v511 v512 a513) ls k = ev tab (g110hd L_g110l0) (bodyAt Go.Proofs.Try.f110 0) (atHead g110l0D ls) (loopK g110l0D 0 (loopH g110l0D (g110l0K L)) k) := by kernel_rfl
theorem g110Main  (L_g110l0 : {α : Type} → (List Int) → (List Int) → ((List Int) → Option α) → Int → Int → (List Int) → Option α) {α : Type} (ls : List Lf) (k : TV → List (List Seg) → List (List Seg) → Option α) :
    g110K (g110b L_g110l0) ls k = evFun tab (g110hd L_g110l0) Go.Proofs.Try.f110 (fillT g110tp ls).1 (fillB g110bp (fillT g110tp ls).2).1 k := by kernel_rfl
theorem g110Calls (m : Nat) : (g110h m).CallsOk Go.Proofs.Try.prog := cok_nil
theorem g110l0Ok (m : Nat) (α : Type) (st : St) (k : Ex → St → Option α) (r : α) (h : (g110h m).loop 0 st k = some r) :
    ∃ e st', k e st' = some r ∧ CodeS Go.Proofs.Try.prog (.block 0 (.loop (bodyAt Go.Proofs.Try.f110 0))) st e st' :=
  loop_ok (tab := tab) (h := g110h m) (F := fun n ls k => g110l0K (fun a514 a515 k527 v511 v512 a513 => g110l0 a514 a515 k527 n v511 v512 a513) ls k) tabOk (g110Calls m) mixed (loopsOk_of _ (fun p hp => by rw [show loopsOf (bodyAt Go.Proofs.Try.f110 0) = [] by kernel_rfl] at hp; cases hp))
    (fun _ _ => rfl) (fun n ls k => g110l0Step (g110l0M m) (fun a514 a515 k527 => g110l0 a514 a515 k527 n) ls k) (n := m) h
theorem g110Fn (m : Nat) : FnOk Go.Proofs.Try.prog 110 g110tp g110bp (fun {α} => g110K (g110 (α := α) m)) :=
  fn_ok (tab := tab) (h := g110h m) (fn := Go.Proofs.Try.f110) (F := fun {α} => g110K (g110 (α := α) m)) tabOk (g110Calls m) mixed (by kernel_rfl) (by kernel_rfl) (fun c hc => by
    rw [bodyOf_some hc]
    exact loopsOk_of _ (fun p hp => by
    rw [show loopsOf (bodyOf Go.Proofs.Try.f110) = [(0, bodyAt Go.Proofs.Try.f110 0)] by kernel_rfl] at hp
    simp only [List.mem_cons, List.not_mem_nil, or_false] at hp
    rcases hp with rfl
    exact g110l0Ok m))
    (fun α ls k => g110Main (g110l0M m) ls k)
theorem g110Ok (m : Nat) : RowOk Go.Proofs.Try.prog 110 (fun {α} => rowK g110tp g110bp (g110K (g110 (α := α) m))) := row_of (g110Fn m)

/-! ### g79: (*impl.calc).add -/
def g79b {α : Type} (G_g108 : {α : Type} → (List Int) → (List Int) → ((List Int) → Bool → Option α) → Option α) (G_g67 : {α : Type} → Bool → (List Int) → (Bool → Option α) → Option α) (G_g111 : {α : Type} → (List Int) → (List Int) → (Int → Option α) → Option α) (G_g110 : {α : Type} → (List Int) → (List Int) → ((List Int) → Option α) → Option α)  (q473 : Bool) (u474 : List Int) (q475 : Bool) (u476 : List Int) (q477 : Bool) (k535 : Bool → (List Int) → Bool → Option α) : Option α :=
  cond (q473 == q475)
   (
    G_g108 u474 u476
      (fun l503 b504 =>
        cond q477
         (
          G_g67 q473 l503
            (fun b505 =>
              k535 b505 l503 true))
         (
          G_g67 q473 l503
            (fun b506 =>
              k535 b506 l503 b504))))
   (
    G_g111 u474 u476
      (fun x507 =>
        cond (decide (x507 < (0 : Int)))
         (
          G_g110 u476 u474
            (fun l531 =>
              G_g67 q475 l531
                (fun b532 =>
                  k535 b532 l531 q477)))
         (
          G_g110 u474 u476
            (fun l533 =>
              G_g67 q473 l533
                (fun b534 =>
                  k535 b534 l533 q477)))))
def g79 {α : Type} (m : Nat) : Bool → (List Int) → Bool → (List Int) → Bool → (Bool → (List Int) → Bool → Option α) → Option α :=
  g79b (g108 m) (g67 m) (g111 m) (g110 m)
def g79tp : List TP := [(.vl (.sv (.ptr 0 0))), (.vl (.agg [(.one .bool), (.seq (.int .u32) 6)])), (.vl (.agg [(.one .bool), (.seq (.int .u32) 6)]))]
def g79bp : List BP := [(true, [(.one .bool)])]
def g79K {α : Type} (G : Bool → (List Int) → Bool → (List Int) → Bool → (Bool → (List Int) → Bool → Option α) → Option α) (ls : List Lf) (k : TV → List (List Seg) → List (List Seg) → Option α) : Option α :=
  G (lf ls 0).bool ((lf ls 1).lst (.int .u32)) (lf ls 2).bool ((lf ls 3).lst (.int .u32)) (lf ls 4).bool
    (fun y0 y1 y2 => k (.vl (.agg [(.one (.bool y0)), (.seq (.int .u32) 6 y1)])) [[(.one (.bool y2))]] [])
def g79hd (G_g108 : {α : Type} → (List Int) → (List Int) → ((List Int) → Bool → Option α) → Option α) (G_g67 : {α : Type} → Bool → (List Int) → (Bool → Option α) → Option α) (G_g111 : {α : Type} → (List Int) → (List Int) → (Int → Option α) → Option α) (G_g110 : {α : Type} → (List Int) → (List Int) → ((List Int) → Option α) → Option α)  : Hd where
  call := fun f args Bs k => cond (Nat.beq f 108) (rowK g108tp g108bp (g108K G_g108) args Bs k) (cond (Nat.beq f 67) (rowK g67tp g67bp (g67K G_g67) args Bs k) (cond (Nat.beq f 111) (rowK g111tp g111bp (g111K G_g111) args Bs k) (cond (Nat.beq f 110) (rowK g110tp g110bp (g110K G_g110) args Bs k) (none))))
  loop := fun id st k => none
  ro := fun f => []
def g79h (m : Nat) : Hd := g79hd (g108 m) (g67 m) (g111 m) (g110 m)
theorem g79Main (G_g108 : {α : Type} → (List Int) → (List Int) → ((List Int) → Bool → Option α) → Option α) (G_g67 : {α : Type} → Bool → (List Int) → (Bool → Option α) → Option α) (G_g111 : {α : Type} → (List Int) → (List Int) → (Int → Option α) → Option α) (G_g110 : {α : Type} → (List Int) → (List Int) → ((List Int) → Option α) → Option α)  {α : Type} (ls : List Lf) (k : TV → List (List Seg) → List (List Seg) → Option α) :
    g79K (g79b G_g108 G_g67 G_g111 G_g110) ls k = evFun tab (g79hd G_g108 G_g67 G_g111 G_g110) Go.Proofs.Try.f79 (fillT g79tp ls).1 (fillB g79bp (fillT g79tp ls).2).1 k := by kernel_rfl
theorem g79Calls (m : Nat) : (g79h m).CallsOk Go.Proofs.Try.prog := (cok_cons (g108Ok m) (cok_cons (g67Ok m) (cok_cons (g111Ok m) (cok_cons (g110Ok m) cok_nil))))
theorem g79Fn (m : Nat) : FnOk Go.Proofs.Try.prog 79 g79tp g79bp (fun {α} => g79K (g79 (α := α) m)) :=
  fn_ok (tab := tab) (h := g79h m) (fn := Go.Proofs.Try.f79) (F := fun {α} => g79K (g79 (α := α) m)) tabOk (g79Calls m) mixed (by kernel_rfl) (by kernel_rfl) (fun c hc => by
    rw [bodyOf_some hc]
    exact loopsOk_of _ (fun p hp => by rw [show loopsOf (bodyOf Go.Proofs.Try.f79) = [] by kernel_rfl] at hp; cases hp))
    (fun α ls k => g79Main (g108 m) (g67 m) (g111 m) (g110 m) ls k)
theorem g79Ok (m : Nat) : RowOk Go.Proofs.Try.prog 79 (fun {α} => rowK g79tp g79bp (g79K (g79 (α := α) m))) := row_of (g79Fn m)

/-! ### g74: (*impl.calc).told -/
def g74b {α : Type}   (q539 : Bool) (u540 : List Int) (q541 : Bool) (k542 : Bool → (List Int) → Int → Option α) : Option α :=
  cond q541
   (
    k542 false [0, 0, 0, 0, 0, 0] (3 : Int))
   (
    k542 q539 u540 (0 : Int))
def g74 {α : Type} (m : Nat) : Bool → (List Int) → Bool → (Bool → (List Int) → Int → Option α) → Option α :=
  g74b
def g74tp : List TP := [(.vl (.sv (.ptr 0 0))), (.vl (.agg [(.one .bool), (.seq (.int .u32) 6)]))]
def g74bp : List BP := [(false, [(.one .bool)])]
def g74K {α : Type} (G : Bool → (List Int) → Bool → (Bool → (List Int) → Int → Option α) → Option α) (ls : List Lf) (k : TV → List (List Seg) → List (List Seg) → Option α) : Option α :=
  G (lf ls 0).bool ((lf ls 1).lst (.int .u32)) (lf ls 2).bool
    (fun y0 y1 y2 => k (.tup [(.agg [(.one (.bool y0)), (.seq (.int .u32) 6 y1)]), (.sv (.int .i64 y2))]) [[(.one (.bool (lf ls 2).bool))]] [])
def g74hd   : Hd where
  call := fun f args Bs k => none
  loop := fun id st k => none
  ro := fun f => []
def g74h (m : Nat) : Hd := g74hd
theorem g74Main   {α : Type} (ls : List Lf) (k : TV → List (List Seg) → List (List Seg) → Option α) :
    g74K (g74b) ls k = evFun tab (g74hd) Go.Proofs.Try.f74 (fillT g74tp ls).1 (fillB g74bp (fillT g74tp ls).2).1 k := by kernel_rfl
theorem g74Calls (m : Nat) : (g74h m).CallsOk Go.Proofs.Try.prog := cok_nil
theorem g74Fn (m : Nat) : FnOk Go.Proofs.Try.prog 74 g74tp g74bp (fun {α} => g74K (g74 (α := α) m)) :=
  fn_ok (tab := tab) (h := g74h m) (fn := Go.Proofs.Try.f74) (F := fun {α} => g74K (g74 (α := α) m)) tabOk (g74Calls m) mixed (by kernel_rfl) (by kernel_rfl) (fun c hc => by
    rw [bodyOf_some hc]
    exact loopsOk_of _ (fun p hp => by rw [show loopsOf (bodyOf Go.Proofs.Try.f74) = [] by kernel_rfl] at hp; cases hp))
    (fun α ls k => g74Main ls k)
theorem g74Ok (m : Nat) : RowOk Go.Proofs.Try.prog 74 (fun {α} => rowK g74tp g74bp (g74K (g74 (α := α) m))) := row_of (g74Fn m)

/-! ### g35: impl.AddWides -/
def g35b {α : Type} (G_g24 : {α : Type} → Bool → (List Int) → (Bool → Option α) → Option α) (G_g79 : {α : Type} → Bool → (List Int) → Bool → (List Int) → Bool → (Bool → (List Int) → Bool → Option α) → Option α) (G_g74 : {α : Type} → Bool → (List Int) → Bool → (Bool → (List Int) → Int → Option α) → Option α)  (q465 : Bool) (u466 : List Int) (q467 : Bool) (u468 : List Int) (k546 : Bool → (List Int) → Int → Option α) : Option α :=
  G_g24 q465 u466
    (fun b469 =>
      cond (!b469)
       (
        k546 false [0, 0, 0, 0, 0, 0] (1 : Int))
       (
        G_g24 q467 u468
          (fun b471 =>
            cond (!b471)
             (
              k546 false [0, 0, 0, 0, 0, 0] (1 : Int))
             (
              G_g79 q465 u466 q467 u468 false
                (fun b536 l537 b538 =>
                  G_g74 b536 l537 b538
                    (fun b543 l544 x545 =>
                      k546 b543 l544 x545))))))
def g35 {α : Type} (m : Nat) : Bool → (List Int) → Bool → (List Int) → (Bool → (List Int) → Int → Option α) → Option α :=
  g35b (g24 m) (g79 m) (g74 m)
def g35tp : List TP := [(.vl (.agg [(.one .bool), (.seq (.int .u32) 6)])), (.vl (.agg [(.one .bool), (.seq (.int .u32) 6)]))]
def g35bp : List BP := []
def g35K {α : Type} (G : Bool → (List Int) → Bool → (List Int) → (Bool → (List Int) → Int → Option α) → Option α) (ls : List Lf) (k : TV → List (List Seg) → List (List Seg) → Option α) : Option α :=
  G (lf ls 0).bool ((lf ls 1).lst (.int .u32)) (lf ls 2).bool ((lf ls 3).lst (.int .u32))
    (fun y0 y1 y2 => k (.tup [(.agg [(.one (.bool y0)), (.seq (.int .u32) 6 y1)]), (.sv (.int .i64 y2))]) [] [])
def g35hd (G_g24 : {α : Type} → Bool → (List Int) → (Bool → Option α) → Option α) (G_g79 : {α : Type} → Bool → (List Int) → Bool → (List Int) → Bool → (Bool → (List Int) → Bool → Option α) → Option α) (G_g74 : {α : Type} → Bool → (List Int) → Bool → (Bool → (List Int) → Int → Option α) → Option α)  : Hd where
  call := fun f args Bs k => cond (Nat.beq f 24) (rowK g24tp g24bp (g24K G_g24) args Bs k) (cond (Nat.beq f 79) (rowK g79tp g79bp (g79K G_g79) args Bs k) (cond (Nat.beq f 74) (rowK g74tp g74bp (g74K G_g74) args Bs k) (none)))
  loop := fun id st k => none
  ro := fun f => cond (Nat.beq f 74) [0] ([])
def g35h (m : Nat) : Hd := g35hd (g24 m) (g79 m) (g74 m)
theorem g35Main (G_g24 : {α : Type} → Bool → (List Int) → (Bool → Option α) → Option α) (G_g79 : {α : Type} → Bool → (List Int) → Bool → (List Int) → Bool → (Bool → (List Int) → Bool → Option α) → Option α) (G_g74 : {α : Type} → Bool → (List Int) → Bool → (Bool → (List Int) → Int → Option α) → Option α)  {α : Type} (ls : List Lf) (k : TV → List (List Seg) → List (List Seg) → Option α) :
    g35K (g35b G_g24 G_g79 G_g74) ls k = evFun tab (g35hd G_g24 G_g79 G_g74) Go.Proofs.Try.f35 (fillT g35tp ls).1 (fillB g35bp (fillT g35tp ls).2).1 k := by kernel_rfl
theorem g35Calls (m : Nat) : (g35h m).CallsOk Go.Proofs.Try.prog := (cok_cons (g24Ok m) (cok_cons (g79Ok m) (cok_cons (g74Ok m) cok_nil)))
theorem g35Fn (m : Nat) : FnOk Go.Proofs.Try.prog 35 g35tp g35bp (fun {α} => g35K (g35 (α := α) m)) :=
  fn_ok (tab := tab) (h := g35h m) (fn := Go.Proofs.Try.f35) (F := fun {α} => g35K (g35 (α := α) m)) tabOk (g35Calls m) mixed (by kernel_rfl) (by kernel_rfl) (fun c hc => by
    rw [bodyOf_some hc]
    exact loopsOk_of _ (fun p hp => by rw [show loopsOf (bodyOf Go.Proofs.Try.f35) = [] by kernel_rfl] at hp; cases hp))
    (fun α ls k => g35Main (g24 m) (g79 m) (g74 m) ls k)
theorem g35Ok (m : Nat) : RowOk Go.Proofs.Try.prog 35 (fun {α} => rowK g35tp g35bp (g35K (g35 (α := α) m))) := row_of (g35Fn m)

/-! ### g14: laws.FnExactAddWides -/
def g14b {α : Type} (G_g23 : {α : Type} → Bool → (List Int) → ((List Int) → Option α) → Option α) (G_g37 : {α : Type} → Bool → (List Int) → Bool → (List Int) → (Bool → (List Int) → Int → Option α) → Option α) (G_g35 : {α : Type} → Bool → (List Int) → Bool → (List Int) → (Bool → (List Int) → Int → Option α) → Option α) (G_g27 : {α : Type} → Bool → (List Int) → Bool → (List Int) → (Bool → Option α) → Option α)  (q374 : Bool) (u375 : List Int) (q376 : Bool) (u377 : List Int) (k553 : Bool → Option α) : Option α :=
  G_g23 q374 u375
    (fun l378 =>
      G_g23 q376 u377
        (fun l379 =>
          G_g37 q374 l378 q376 l379
            (fun b460 l461 x462 =>
              G_g23 q374 u375
                (fun l463 =>
                  G_g23 q376 u377
                    (fun l464 =>
                      G_g35 q374 l463 q376 l464
                        (fun b547 l548 x549 =>
                          G_g27 b547 l548 b460 l461
                            (fun b550 =>
                              cond (!b550)
                               (
                                k553 false)
                               (
                                cond (x549 != x462)
                                 (
                                  k553 false)
                                 (
                                  k553 true)))))))))
def g14 {α : Type} (m : Nat) : Bool → (List Int) → Bool → (List Int) → (Bool → Option α) → Option α :=
  g14b (g23 m) (g37 m) (g35 m) (g27 m)
def g14tp : List TP := [(.vl (.agg [(.one .bool), (.seq (.int .u32) 6)])), (.vl (.agg [(.one .bool), (.seq (.int .u32) 6)]))]
def g14bp : List BP := []
def g14K {α : Type} (G : Bool → (List Int) → Bool → (List Int) → (Bool → Option α) → Option α) (ls : List Lf) (k : TV → List (List Seg) → List (List Seg) → Option α) : Option α :=
  G (lf ls 0).bool ((lf ls 1).lst (.int .u32)) (lf ls 2).bool ((lf ls 3).lst (.int .u32))
    (fun y0 => k (.vl (.sv (.bool y0))) [] [])
def g14hd (G_g23 : {α : Type} → Bool → (List Int) → ((List Int) → Option α) → Option α) (G_g37 : {α : Type} → Bool → (List Int) → Bool → (List Int) → (Bool → (List Int) → Int → Option α) → Option α) (G_g35 : {α : Type} → Bool → (List Int) → Bool → (List Int) → (Bool → (List Int) → Int → Option α) → Option α) (G_g27 : {α : Type} → Bool → (List Int) → Bool → (List Int) → (Bool → Option α) → Option α)  : Hd where
  call := fun f args Bs k => cond (Nat.beq f 23) (rowK g23tp g23bp (g23K G_g23) args Bs k) (cond (Nat.beq f 37) (rowK g37tp g37bp (g37K G_g37) args Bs k) (cond (Nat.beq f 35) (rowK g35tp g35bp (g35K G_g35) args Bs k) (cond (Nat.beq f 27) (rowK g27tp g27bp (g27K G_g27) args Bs k) (none))))
  loop := fun id st k => none
  ro := fun f => []
def g14h (m : Nat) : Hd := g14hd (g23 m) (g37 m) (g35 m) (g27 m)
theorem g14Main (G_g23 : {α : Type} → Bool → (List Int) → ((List Int) → Option α) → Option α) (G_g37 : {α : Type} → Bool → (List Int) → Bool → (List Int) → (Bool → (List Int) → Int → Option α) → Option α) (G_g35 : {α : Type} → Bool → (List Int) → Bool → (List Int) → (Bool → (List Int) → Int → Option α) → Option α) (G_g27 : {α : Type} → Bool → (List Int) → Bool → (List Int) → (Bool → Option α) → Option α)  {α : Type} (ls : List Lf) (k : TV → List (List Seg) → List (List Seg) → Option α) :
    g14K (g14b G_g23 G_g37 G_g35 G_g27) ls k = evFun tab (g14hd G_g23 G_g37 G_g35 G_g27) Go.Proofs.Try.f14 (fillT g14tp ls).1 (fillB g14bp (fillT g14tp ls).2).1 k := by kernel_rfl
theorem g14Calls (m : Nat) : (g14h m).CallsOk Go.Proofs.Try.prog := (cok_cons (g23Ok m) (cok_cons (g37Ok m) (cok_cons (g35Ok m) (cok_cons (g27Ok m) cok_nil))))
theorem g14Fn (m : Nat) : FnOk Go.Proofs.Try.prog 14 g14tp g14bp (fun {α} => g14K (g14 (α := α) m)) :=
  fn_ok (tab := tab) (h := g14h m) (fn := Go.Proofs.Try.f14) (F := fun {α} => g14K (g14 (α := α) m)) tabOk (g14Calls m) mixed (by kernel_rfl) (by kernel_rfl) (fun c hc => by
    rw [bodyOf_some hc]
    exact loopsOk_of _ (fun p hp => by rw [show loopsOf (bodyOf Go.Proofs.Try.f14) = [] by kernel_rfl] at hp; cases hp))
    (fun α ls k => g14Main (g23 m) (g37 m) (g35 m) (g27 m) ls k)
theorem g14Ok (m : Nat) : RowOk Go.Proofs.Try.prog 14 (fun {α} => rowK g14tp g14bp (g14K (g14 (α := α) m))) := row_of (g14Fn m)

/-! ### g58: spec.SubWides -/
def g58b {α : Type} (G_g64 : {α : Type} → Bool → (List Int) → (Bool → Option α) → Option α) (G_g91 : {α : Type} → Bool → (List Int) → (Bool → Option α) → Option α) (G_g81 : {α : Type} → Bool → (List Int) → Bool → (List Int) → (Bool → (List Int) → Int → Option α) → Option α)  (q560 : Bool) (u561 : List Int) (q562 : Bool) (u563 : List Int) (k572 : Bool → (List Int) → Int → Option α) : Option α :=
  G_g64 q560 u561
    (fun b564 =>
      cond (!b564)
       (
        k572 false [0, 0, 0, 0, 0, 0] (1 : Int))
       (
        G_g64 q562 u563
          (fun b566 =>
            cond (!b566)
             (
              k572 false [0, 0, 0, 0, 0, 0] (1 : Int))
             (
              G_g91 q562 u563
                (fun b568 =>
                  G_g81 q560 u561 b568 u563
                    (fun b569 l570 x571 =>
                      k572 b569 l570 x571))))))
def g58 {α : Type} (m : Nat) : Bool → (List Int) → Bool → (List Int) → (Bool → (List Int) → Int → Option α) → Option α :=
  g58b (g64 m) (g91 m) (g81 m)
def g58tp : List TP := [(.vl (.agg [(.one .bool), (.seq (.int .u32) 6)])), (.vl (.agg [(.one .bool), (.seq (.int .u32) 6)]))]
def g58bp : List BP := []
def g58K {α : Type} (G : Bool → (List Int) → Bool → (List Int) → (Bool → (List Int) → Int → Option α) → Option α) (ls : List Lf) (k : TV → List (List Seg) → List (List Seg) → Option α) : Option α :=
  G (lf ls 0).bool ((lf ls 1).lst (.int .u32)) (lf ls 2).bool ((lf ls 3).lst (.int .u32))
    (fun y0 y1 y2 => k (.tup [(.agg [(.one (.bool y0)), (.seq (.int .u32) 6 y1)]), (.sv (.int .i64 y2))]) [] [])
def g58hd (G_g64 : {α : Type} → Bool → (List Int) → (Bool → Option α) → Option α) (G_g91 : {α : Type} → Bool → (List Int) → (Bool → Option α) → Option α) (G_g81 : {α : Type} → Bool → (List Int) → Bool → (List Int) → (Bool → (List Int) → Int → Option α) → Option α)  : Hd where
  call := fun f args Bs k => cond (Nat.beq f 64) (rowK g64tp g64bp (g64K G_g64) args Bs k) (cond (Nat.beq f 91) (rowK g91tp g91bp (g91K G_g91) args Bs k) (cond (Nat.beq f 81) (rowK g81tp g81bp (g81K G_g81) args Bs k) (none)))
  loop := fun id st k => none
  ro := fun f => cond (Nat.beq f 64) [0] ([])
def g58h (m : Nat) : Hd := g58hd (g64 m) (g91 m) (g81 m)
theorem g58Main (G_g64 : {α : Type} → Bool → (List Int) → (Bool → Option α) → Option α) (G_g91 : {α : Type} → Bool → (List Int) → (Bool → Option α) → Option α) (G_g81 : {α : Type} → Bool → (List Int) → Bool → (List Int) → (Bool → (List Int) → Int → Option α) → Option α)  {α : Type} (ls : List Lf) (k : TV → List (List Seg) → List (List Seg) → Option α) :
    g58K (g58b G_g64 G_g91 G_g81) ls k = evFun tab (g58hd G_g64 G_g91 G_g81) Go.Proofs.Try.f58 (fillT g58tp ls).1 (fillB g58bp (fillT g58tp ls).2).1 k := by kernel_rfl
theorem g58Calls (m : Nat) : (g58h m).CallsOk Go.Proofs.Try.prog := (cok_cons (g64Ok m) (cok_cons (g91Ok m) (cok_cons (g81Ok m) cok_nil)))
theorem g58Fn (m : Nat) : FnOk Go.Proofs.Try.prog 58 g58tp g58bp (fun {α} => g58K (g58 (α := α) m)) :=
  fn_ok (tab := tab) (h := g58h m) (fn := Go.Proofs.Try.f58) (F := fun {α} => g58K (g58 (α := α) m)) tabOk (g58Calls m) mixed (by kernel_rfl) (by kernel_rfl) (fun c hc => by
    rw [bodyOf_some hc]
    exact loopsOk_of _ (fun p hp => by rw [show loopsOf (bodyOf Go.Proofs.Try.f58) = [] by kernel_rfl] at hp; cases hp))
    (fun α ls k => g58Main (g64 m) (g91 m) (g81 m) ls k)
theorem g58Ok (m : Nat) : RowOk Go.Proofs.Try.prog 58 (fun {α} => rowK g58tp g58bp (g58K (g58 (α := α) m))) := row_of (g58Fn m)

/-! ### g80: (*impl.calc).sub -/
def g80b {α : Type} (G_g92 : {α : Type} → Bool → (List Int) → (Bool → Option α) → Option α) (G_g79 : {α : Type} → Bool → (List Int) → Bool → (List Int) → Bool → (Bool → (List Int) → Bool → Option α) → Option α)  (q586 : Bool) (u587 : List Int) (q588 : Bool) (u589 : List Int) (q590 : Bool) (k595 : Bool → (List Int) → Bool → Option α) : Option α :=
  G_g92 q588 u589
    (fun b591 =>
      G_g79 q586 u587 b591 u589 q590
        (fun b592 l593 b594 =>
          k595 b592 l593 b594))
def g80 {α : Type} (m : Nat) : Bool → (List Int) → Bool → (List Int) → Bool → (Bool → (List Int) → Bool → Option α) → Option α :=
  g80b (g92 m) (g79 m)
def g80tp : List TP := [(.vl (.sv (.ptr 0 0))), (.vl (.agg [(.one .bool), (.seq (.int .u32) 6)])), (.vl (.agg [(.one .bool), (.seq (.int .u32) 6)]))]
def g80bp : List BP := [(true, [(.one .bool)])]
def g80K {α : Type} (G : Bool → (List Int) → Bool → (List Int) → Bool → (Bool → (List Int) → Bool → Option α) → Option α) (ls : List Lf) (k : TV → List (List Seg) → List (List Seg) → Option α) : Option α :=
  G (lf ls 0).bool ((lf ls 1).lst (.int .u32)) (lf ls 2).bool ((lf ls 3).lst (.int .u32)) (lf ls 4).bool
    (fun y0 y1 y2 => k (.vl (.agg [(.one (.bool y0)), (.seq (.int .u32) 6 y1)])) [[(.one (.bool y2))]] [])
def g80hd (G_g92 : {α : Type} → Bool → (List Int) → (Bool → Option α) → Option α) (G_g79 : {α : Type} → Bool → (List Int) → Bool → (List Int) → Bool → (Bool → (List Int) → Bool → Option α) → Option α)  : Hd where
  call := fun f args Bs k => cond (Nat.beq f 92) (rowK g92tp g92bp (g92K G_g92) args Bs k) (cond (Nat.beq f 79) (rowK g79tp g79bp (g79K G_g79) args Bs k) (none))
  loop := fun id st k => none
  ro := fun f => []
def g80h (m : Nat) : Hd := g80hd (g92 m) (g79 m)
theorem g80Main (G_g92 : {α : Type} → Bool → (List Int) → (Bool → Option α) → Option α) (G_g79 : {α : Type} → Bool → (List Int) → Bool → (List Int) → Bool → (Bool → (List Int) → Bool → Option α) → Option α)  {α : Type} (ls : List Lf) (k : TV → List (List Seg) → List (List Seg) → Option α) :
    g80K (g80b G_g92 G_g79) ls k = evFun tab (g80hd G_g92 G_g79) Go.Proofs.Try.f80 (fillT g80tp ls).1 (fillB g80bp (fillT g80tp ls).2).1 k := by kernel_rfl
theorem g80Calls (m : Nat) : (g80h m).CallsOk Go.Proofs.Try.prog := (cok_cons (g92Ok m) (cok_cons (g79Ok m) cok_nil))
theorem g80Fn (m : Nat) : FnOk Go.Proofs.Try.prog 80 g80tp g80bp (fun {α} => g80K (g80 (α := α) m)) :=
  fn_ok (tab := tab) (h := g80h m) (fn := Go.Proofs.Try.f80) (F := fun {α} => g80K (g80 (α := α) m)) tabOk (g80Calls m) mixed (by kernel_rfl) (by kernel_rfl) (fun c hc => by
    rw [bodyOf_some hc]
    exact loopsOk_of _ (fun p hp => by rw [show loopsOf (bodyOf Go.Proofs.Try.f80) = [] by kernel_rfl] at hp; cases hp))
    (fun α ls k => g80Main (g92 m) (g79 m) ls k)
theorem g80Ok (m : Nat) : RowOk Go.Proofs.Try.prog 80 (fun {α} => rowK g80tp g80bp (g80K (g80 (α := α) m))) := row_of (g80Fn m)

/-! ### g36: impl.SubWides -/
def g36b {α : Type} (G_g24 : {α : Type} → Bool → (List Int) → (Bool → Option α) → Option α) (G_g80 : {α : Type} → Bool → (List Int) → Bool → (List Int) → Bool → (Bool → (List Int) → Bool → Option α) → Option α) (G_g74 : {α : Type} → Bool → (List Int) → Bool → (Bool → (List Int) → Int → Option α) → Option α)  (q578 : Bool) (u579 : List Int) (q580 : Bool) (u581 : List Int) (k602 : Bool → (List Int) → Int → Option α) : Option α :=
  G_g24 q578 u579
    (fun b582 =>
      cond (!b582)
       (
        k602 false [0, 0, 0, 0, 0, 0] (1 : Int))
       (
        G_g24 q580 u581
          (fun b584 =>
            cond (!b584)
             (
              k602 false [0, 0, 0, 0, 0, 0] (1 : Int))
             (
              G_g80 q578 u579 q580 u581 false
                (fun b596 l597 b598 =>
                  G_g74 b596 l597 b598
                    (fun b599 l600 x601 =>
                      k602 b599 l600 x601))))))
def g36 {α : Type} (m : Nat) : Bool → (List Int) → Bool → (List Int) → (Bool → (List Int) → Int → Option α) → Option α :=
  g36b (g24 m) (g80 m) (g74 m)
def g36tp : List TP := [(.vl (.agg [(.one .bool), (.seq (.int .u32) 6)])), (.vl (.agg [(.one .bool), (.seq (.int .u32) 6)]))]
def g36bp : List BP := []
def g36K {α : Type} (G : Bool → (List Int) → Bool → (List Int) → (Bool → (List Int) → Int → Option α) → Option α) (ls : List Lf) (k : TV → List (List Seg) → List (List Seg) → Option α) : Option α :=
  G (lf ls 0).bool ((lf ls 1).lst (.int .u32)) (lf ls 2).bool ((lf ls 3).lst (.int .u32))
    (fun y0 y1 y2 => k (.tup [(.agg [(.one (.bool y0)), (.seq (.int .u32) 6 y1)]), (.sv (.int .i64 y2))]) [] [])
def g36hd (G_g24 : {α : Type} → Bool → (List Int) → (Bool → Option α) → Option α) (G_g80 : {α : Type} → Bool → (List Int) → Bool → (List Int) → Bool → (Bool → (List Int) → Bool → Option α) → Option α) (G_g74 : {α : Type} → Bool → (List Int) → Bool → (Bool → (List Int) → Int → Option α) → Option α)  : Hd where
  call := fun f args Bs k => cond (Nat.beq f 24) (rowK g24tp g24bp (g24K G_g24) args Bs k) (cond (Nat.beq f 80) (rowK g80tp g80bp (g80K G_g80) args Bs k) (cond (Nat.beq f 74) (rowK g74tp g74bp (g74K G_g74) args Bs k) (none)))
  loop := fun id st k => none
  ro := fun f => cond (Nat.beq f 74) [0] ([])
def g36h (m : Nat) : Hd := g36hd (g24 m) (g80 m) (g74 m)
theorem g36Main (G_g24 : {α : Type} → Bool → (List Int) → (Bool → Option α) → Option α) (G_g80 : {α : Type} → Bool → (List Int) → Bool → (List Int) → Bool → (Bool → (List Int) → Bool → Option α) → Option α) (G_g74 : {α : Type} → Bool → (List Int) → Bool → (Bool → (List Int) → Int → Option α) → Option α)  {α : Type} (ls : List Lf) (k : TV → List (List Seg) → List (List Seg) → Option α) :
    g36K (g36b G_g24 G_g80 G_g74) ls k = evFun tab (g36hd G_g24 G_g80 G_g74) Go.Proofs.Try.f36 (fillT g36tp ls).1 (fillB g36bp (fillT g36tp ls).2).1 k := by kernel_rfl
theorem g36Calls (m : Nat) : (g36h m).CallsOk Go.Proofs.Try.prog := (cok_cons (g24Ok m) (cok_cons (g80Ok m) (cok_cons (g74Ok m) cok_nil)))
theorem g36Fn (m : Nat) : FnOk Go.Proofs.Try.prog 36 g36tp g36bp (fun {α} => g36K (g36 (α := α) m)) :=
  fn_ok (tab := tab) (h := g36h m) (fn := Go.Proofs.Try.f36) (F := fun {α} => g36K (g36 (α := α) m)) tabOk (g36Calls m) mixed (by kernel_rfl) (by kernel_rfl) (fun c hc => by
    rw [bodyOf_some hc]
    exact loopsOk_of _ (fun p hp => by rw [show loopsOf (bodyOf Go.Proofs.Try.f36) = [] by kernel_rfl] at hp; cases hp))
    (fun α ls k => g36Main (g24 m) (g80 m) (g74 m) ls k)
theorem g36Ok (m : Nat) : RowOk Go.Proofs.Try.prog 36 (fun {α} => rowK g36tp g36bp (g36K (g36 (α := α) m))) := row_of (g36Fn m)

/-! ### g15: laws.FnExactSubWides -/
def g15b {α : Type} (G_g23 : {α : Type} → Bool → (List Int) → ((List Int) → Option α) → Option α) (G_g58 : {α : Type} → Bool → (List Int) → Bool → (List Int) → (Bool → (List Int) → Int → Option α) → Option α) (G_g36 : {α : Type} → Bool → (List Int) → Bool → (List Int) → (Bool → (List Int) → Int → Option α) → Option α) (G_g27 : {α : Type} → Bool → (List Int) → Bool → (List Int) → (Bool → Option α) → Option α)  (q554 : Bool) (u555 : List Int) (q556 : Bool) (u557 : List Int) (k609 : Bool → Option α) : Option α :=
  G_g23 q554 u555
    (fun l558 =>
      G_g23 q556 u557
        (fun l559 =>
          G_g58 q554 l558 q556 l559
            (fun b573 l574 x575 =>
              G_g23 q554 u555
                (fun l576 =>
                  G_g23 q556 u557
                    (fun l577 =>
                      G_g36 q554 l576 q556 l577
                        (fun b603 l604 x605 =>
                          G_g27 b603 l604 b573 l574
                            (fun b606 =>
                              cond (!b606)
                               (
                                k609 false)
                               (
                                cond (x605 != x575)
                                 (
                                  k609 false)
                                 (
                                  k609 true)))))))))
def g15 {α : Type} (m : Nat) : Bool → (List Int) → Bool → (List Int) → (Bool → Option α) → Option α :=
  g15b (g23 m) (g58 m) (g36 m) (g27 m)
def g15tp : List TP := [(.vl (.agg [(.one .bool), (.seq (.int .u32) 6)])), (.vl (.agg [(.one .bool), (.seq (.int .u32) 6)]))]
def g15bp : List BP := []
def g15K {α : Type} (G : Bool → (List Int) → Bool → (List Int) → (Bool → Option α) → Option α) (ls : List Lf) (k : TV → List (List Seg) → List (List Seg) → Option α) : Option α :=
  G (lf ls 0).bool ((lf ls 1).lst (.int .u32)) (lf ls 2).bool ((lf ls 3).lst (.int .u32))
    (fun y0 => k (.vl (.sv (.bool y0))) [] [])
def g15hd (G_g23 : {α : Type} → Bool → (List Int) → ((List Int) → Option α) → Option α) (G_g58 : {α : Type} → Bool → (List Int) → Bool → (List Int) → (Bool → (List Int) → Int → Option α) → Option α) (G_g36 : {α : Type} → Bool → (List Int) → Bool → (List Int) → (Bool → (List Int) → Int → Option α) → Option α) (G_g27 : {α : Type} → Bool → (List Int) → Bool → (List Int) → (Bool → Option α) → Option α)  : Hd where
  call := fun f args Bs k => cond (Nat.beq f 23) (rowK g23tp g23bp (g23K G_g23) args Bs k) (cond (Nat.beq f 58) (rowK g58tp g58bp (g58K G_g58) args Bs k) (cond (Nat.beq f 36) (rowK g36tp g36bp (g36K G_g36) args Bs k) (cond (Nat.beq f 27) (rowK g27tp g27bp (g27K G_g27) args Bs k) (none))))
  loop := fun id st k => none
  ro := fun f => []
def g15h (m : Nat) : Hd := g15hd (g23 m) (g58 m) (g36 m) (g27 m)
theorem g15Main (G_g23 : {α : Type} → Bool → (List Int) → ((List Int) → Option α) → Option α) (G_g58 : {α : Type} → Bool → (List Int) → Bool → (List Int) → (Bool → (List Int) → Int → Option α) → Option α) (G_g36 : {α : Type} → Bool → (List Int) → Bool → (List Int) → (Bool → (List Int) → Int → Option α) → Option α) (G_g27 : {α : Type} → Bool → (List Int) → Bool → (List Int) → (Bool → Option α) → Option α)  {α : Type} (ls : List Lf) (k : TV → List (List Seg) → List (List Seg) → Option α) :
    g15K (g15b G_g23 G_g58 G_g36 G_g27) ls k = evFun tab (g15hd G_g23 G_g58 G_g36 G_g27) Go.Proofs.Try.f15 (fillT g15tp ls).1 (fillB g15bp (fillT g15tp ls).2).1 k := by kernel_rfl
theorem g15Calls (m : Nat) : (g15h m).CallsOk Go.Proofs.Try.prog := (cok_cons (g23Ok m) (cok_cons (g58Ok m) (cok_cons (g36Ok m) (cok_cons (g27Ok m) cok_nil))))
theorem g15Fn (m : Nat) : FnOk Go.Proofs.Try.prog 15 g15tp g15bp (fun {α} => g15K (g15 (α := α) m)) :=
  fn_ok (tab := tab) (h := g15h m) (fn := Go.Proofs.Try.f15) (F := fun {α} => g15K (g15 (α := α) m)) tabOk (g15Calls m) mixed (by kernel_rfl) (by kernel_rfl) (fun c hc => by
    rw [bodyOf_some hc]
    exact loopsOk_of _ (fun p hp => by rw [show loopsOf (bodyOf Go.Proofs.Try.f15) = [] by kernel_rfl] at hp; cases hp))
    (fun α ls k => g15Main (g23 m) (g58 m) (g36 m) (g27 m) ls k)
theorem g15Ok (m : Nat) : RowOk Go.Proofs.Try.prog 15 (fun {α} => rowK g15tp g15bp (g15K (g15 (α := α) m))) := row_of (g15Fn m)
end Go.Proofs.Ytcccndkeaichcaa.Sx
