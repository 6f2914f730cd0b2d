/- Functions. Printed by our own sx.py. -/
import Derived.Test.YtcccndkeaichcaaSxT
namespace Go.Proofs.Ytcccndkeaichcaa.Sx
open Go
set_option linter.unusedVariables false
set_option maxRecDepth 100000
/-! ### g65: laws.toUint32A6 -/
def g65l0b {α : Type}   (a7 : List Int) (a8 : List Int) (k14 : (List Int) → Option α) (r15 : Int → (List Int) → Option α) (v6 : Int) (a9 : List Int) : Option α :=
  cond (decide (v6 < (6 : Int)))
   (
    if 0 ≤ v6 ∧ v6 < (6 : Nat) then
      if v6.toNat < 6 then
        if 0 ≤ v6 ∧ v6 < (6 : Nat) then
          if v6.toNat < 6 then
            r15 (IntKind.wrap .i64 (v6 + (1 : Int))) (List.set a9 (v6.toNat) (List.getD a7 v6.toNat 0))
          else
            none
        else
          none
      else
        none
    else
      none)
   (
    k14 a9)
def g65l0 {α : Type}   (a7 : List Int) (a8 : List Int) (k14 : (List Int) → Option α) : Nat → Int → (List Int) → Option α
  | 0 => fun _ _ => none
  | m + 1 => fun v6 a9 => g65l0b a7 a8 k14 (g65l0 a7 a8 k14 m) v6 a9
def g65l0M {α : Type} (m : Nat) : (List Int) → (List Int) → ((List Int) → Option α) → Int → (List Int) → Option α :=
  fun a7 a8 k14 v6 a9 => g65l0 a7 a8 k14 m v6 a9
def g65l0D : LoopD := { n := 15, sl := [1, 2, 3, 4], bl := [1001, 1002, 1003], tp := [(.vl (.sv (.ptr 1001 0))), (.vl (.sv (.ptr 1002 0))), (.vl (.sv (.ptr 1003 0))), (.vl (.sv (.int .i64)))], bp := [(true, [(.seq (.int .u32) 6)]), (true, [(.seq (.int .u32) 6)]), (true, [(.seq (.int .u32) 6)])], xs := [(2, [2, 3], [1002, 1003])] }
def g65l0K {α : Type} (L : (List Int) → (List Int) → ((List Int) → Option α) → Int → (List Int) → Option α) (ls : List Lf) (k : Ex → St → Option α) : Option α :=
  L ((lf ls 1).lst (.int .u32)) ((lf ls 2).lst (.int .u32))
    (fun y1 => k .normal (mkSt 15 [2, 3] [(.vl (.sv (.ptr 1002 0))), (.vl (.sv (.ptr 1003 0)))] [1002, 1003] [(true, [(.seq (.int .u32) 6 ((lf ls 2).lst (.int .u32)))]), (true, [(.seq (.int .u32) 6 y1)])]))
    (lf ls 0).int ((lf ls 3).lst (.int .u32))
def g65b {α : Type}  (L_g65l0 : {α : Type} → (List Int) → (List Int) → ((List Int) → Option α) → Int → (List Int) → Option α) (u5 : List Int) (k17 : (List Int) → Option α) : Option α :=
  L_g65l0 u5 [0, 0, 0, 0, 0, 0]
    (fun l16 =>
      k17 l16)
    (0 : Int) [0, 0, 0, 0, 0, 0]
def g65 {α : Type} (m : Nat) : (List Int) → ((List Int) → Option α) → Option α :=
  g65b (g65l0M m)
def g65tp : List TP := [(.vl (.agg [(.seq (.int .u32) 6)]))]
def g65bp : List BP := []
def g65K {α : Type} (G : (List Int) → ((List Int) → Option α) → Option α) (ls : List Lf) (k : TV → List (List Seg) → List (List Seg) → Option α) : Option α :=
  G ((lf ls 0).lst (.int .u32))
    (fun y0 => k (.vl (.agg [(.seq (.int .u32) 6 y0)])) [] [])
def g65hd  (L_g65l0 : {α : Type} → (List Int) → (List Int) → ((List Int) → Option α) → Int → (List Int) → Option α) : Hd where
  call := fun f args Bs k => none
  loop := fun id st k => cond (Nat.beq id 0) (loopH g65l0D (g65l0K L_g65l0) st k) (none)
def g65h (m : Nat) : Hd := g65hd (g65l0M m)
theorem g65l0Step  (L_g65l0 : {α : Type} → (List Int) → (List Int) → ((List Int) → Option α) → Int → (List Int) → Option α) {α : Type} (L : (List Int) → (List Int) → ((List Int) → Option α) → Int → (List Int) → Option α) (ls : List Lf) (k : Ex → St → Option α) :
    g65l0K (fun a7 a8 k14 v6 a9 => g65l0b a7 a8 k14 (L a7 a8 k14) v6 a9) ls k = ev tab (g65hd L_g65l0) (bodyAt Go.Proofs.Try.f65 0) (atHead g65l0D ls) (loopK g65l0D 0 (loopH g65l0D (g65l0K L)) k) := by kernel_rfl
theorem g65Main  (L_g65l0 : {α : Type} → (List Int) → (List Int) → ((List Int) → Option α) → Int → (List Int) → Option α) {α : Type} (ls : List Lf) (k : TV → List (List Seg) → List (List Seg) → Option α) :
    g65K (g65b L_g65l0) ls k = evFun tab (g65hd L_g65l0) Go.Proofs.Try.f65 (fillT g65tp ls).1 (fillB g65bp (fillT g65tp ls).2).1 k := by kernel_rfl
theorem g65Calls (m : Nat) : (g65h m).CallsOk Go.Proofs.Try.prog := cok_nil
theorem g65l0Ok (m : Nat) (α : Type) (st : St) (k : Ex → St → Option α) (r : α) (h : (g65h m).loop 0 st k = some r) :
    ∃ e st', k e st' = some r ∧ CodeS Go.Proofs.Try.prog (.block 0 (.loop (bodyAt Go.Proofs.Try.f65 0))) st e st' :=
  loop_ok (tab := tab) (h := g65h m) (F := fun n ls k => g65l0K (fun a7 a8 k14 v6 a9 => g65l0 a7 a8 k14 n v6 a9) ls k) tabOk (g65Calls m) mixed (loopsOk_of _ (fun p hp => by rw [show loopsOf (bodyAt Go.Proofs.Try.f65 0) = [] by kernel_rfl] at hp; cases hp))
    (fun _ _ => rfl) (fun n ls k => g65l0Step (g65l0M m) (fun a7 a8 k14 => g65l0 a7 a8 k14 n) ls k) (n := m) h
theorem g65Fn (m : Nat) : FnOk Go.Proofs.Try.prog 65 g65tp g65bp (fun {α} => g65K (g65 (α := α) m)) :=
  fn_ok (tab := tab) (h := g65h m) (fn := Go.Proofs.Try.f65) (F := fun {α} => g65K (g65 (α := α) m)) tabOk (g65Calls m) mixed (by kernel_rfl) (by kernel_rfl) (fun c hc => by
    rw [bodyOf_some hc]
    exact loopsOk_of _ (fun p hp => by
    rw [show loopsOf (bodyOf Go.Proofs.Try.f65) = [(0, bodyAt Go.Proofs.Try.f65 0)] by kernel_rfl] at hp
    simp only [List.mem_cons, List.not_mem_nil, or_false] at hp
    rcases hp with rfl
    exact g65l0Ok m))
    (fun α ls k => g65Main (g65l0M m) ls k)
theorem g65Ok (m : Nat) : RowOk Go.Proofs.Try.prog 65 (fun {α} => rowK g65tp g65bp (g65K (g65 (α := α) m))) := row_of (g65Fn m)

/-! ### g23: laws.toWide -/
def g23b {α : Type} (G_g65 : {α : Type} → (List Int) → ((List Int) → Option α) → Option α)  (q3 : Bool) (u4 : List Int) (k19 : (List Int) → Option α) : Option α :=
  G_g65 u4
    (fun l18 =>
      k19 l18)
def g23 {α : Type} (m : Nat) : Bool → (List Int) → ((List Int) → Option α) → Option α :=
  g23b (g65 m)
def g23tp : List TP := [(.vl (.agg [(.one .bool), (.seq (.int .u32) 6)]))]
def g23bp : List BP := []
def g23K {α : Type} (G : Bool → (List Int) → ((List Int) → Option α) → Option α) (ls : List Lf) (k : TV → List (List Seg) → List (List Seg) → Option α) : Option α :=
  G (lf ls 0).bool ((lf ls 1).lst (.int .u32))
    (fun y1 => k (.vl (.agg [(.one (.bool (lf ls 0).bool)), (.seq (.int .u32) 6 y1)])) [] [])
def g23hd (G_g65 : {α : Type} → (List Int) → ((List Int) → Option α) → Option α)  : Hd where
  call := fun f args Bs k => cond (Nat.beq f 65) (rowK g65tp g65bp (g65K G_g65) args Bs k) (none)
  loop := fun id st k => none
def g23h (m : Nat) : Hd := g23hd (g65 m)
theorem g23Main (G_g65 : {α : Type} → (List Int) → ((List Int) → Option α) → Option α)  {α : Type} (ls : List Lf) (k : TV → List (List Seg) → List (List Seg) → Option α) :
    g23K (g23b G_g65) ls k = evFun tab (g23hd G_g65) Go.Proofs.Try.f23 (fillT g23tp ls).1 (fillB g23bp (fillT g23tp ls).2).1 k := by kernel_rfl
theorem g23Calls (m : Nat) : (g23h m).CallsOk Go.Proofs.Try.prog := (cok_cons (g65Ok m) cok_nil)
theorem g23Fn (m : Nat) : FnOk Go.Proofs.Try.prog 23 g23tp g23bp (fun {α} => g23K (g23 (α := α) m)) :=
  fn_ok (tab := tab) (h := g23h m) (fn := Go.Proofs.Try.f23) (F := fun {α} => g23K (g23 (α := α) m)) tabOk (g23Calls m) mixed (by kernel_rfl) (by kernel_rfl) (fun c hc => by
    rw [bodyOf_some hc]
    exact loopsOk_of _ (fun p hp => by rw [show loopsOf (bodyOf Go.Proofs.Try.f23) = [] by kernel_rfl] at hp; cases hp))
    (fun α ls k => g23Main (g65 m) ls k)
theorem g23Ok (m : Nat) : RowOk Go.Proofs.Try.prog 23 (fun {α} => rowK g23tp g23bp (g23K (g23 (α := α) m))) := row_of (g23Fn m)

/-! ### g64: spec.l01Ok -/
def g64b {α : Type}   (q23 : Bool) (u24 : List Int) (k27 : Bool → Option α) : Option α :=
  cond (!q23)
   (
    k27 true)
   (
    k27 (!(eqLI u24 [0, 0, 0, 0, 0, 0])))
def g64 {α : Type} (m : Nat) : Bool → (List Int) → (Bool → Option α) → Option α :=
  g64b
def g64tp : List TP := [(.vl (.sv (.ptr 0 0)))]
def g64bp : List BP := [(true, [(.one .bool), (.seq (.int .u32) 6)])]
def g64K {α : Type} (G : Bool → (List Int) → (Bool → Option α) → Option α) (ls : List Lf) (k : TV → List (List Seg) → List (List Seg) → Option α) : Option α :=
  G (lf ls 0).bool ((lf ls 1).lst (.int .u32))
    (fun y0 => k (.vl (.sv (.bool y0))) [[(.one (.bool (lf ls 0).bool)), (.seq (.int .u32) 6 ((lf ls 1).lst (.int .u32)))]] [])
def g64hd   : Hd where
  call := fun f args Bs k => none
  loop := fun id st k => none
def g64h (m : Nat) : Hd := g64hd
theorem g64Main   {α : Type} (ls : List Lf) (k : TV → List (List Seg) → List (List Seg) → Option α) :
    g64K (g64b) ls k = evFun tab (g64hd) Go.Proofs.Try.f64 (fillT g64tp ls).1 (fillB g64bp (fillT g64tp ls).2).1 k := by kernel_rfl
theorem g64Calls (m : Nat) : (g64h m).CallsOk Go.Proofs.Try.prog := cok_nil
theorem g64Fn (m : Nat) : FnOk Go.Proofs.Try.prog 64 g64tp g64bp (fun {α} => g64K (g64 (α := α) m)) :=
  fn_ok (tab := tab) (h := g64h m) (fn := Go.Proofs.Try.f64) (F := fun {α} => g64K (g64 (α := α) m)) tabOk (g64Calls m) mixed (by kernel_rfl) (by kernel_rfl) (fun c hc => by
    rw [bodyOf_some hc]
    exact loopsOk_of _ (fun p hp => by rw [show loopsOf (bodyOf Go.Proofs.Try.f64) = [] by kernel_rfl] at hp; cases hp))
    (fun α ls k => g64Main ls k)
theorem g64Ok (m : Nat) : RowOk Go.Proofs.Try.prog 64 (fun {α} => rowK g64tp g64bp (g64K (g64 (α := α) m))) := row_of (g64Fn m)

/-! ### g22: spec.ValidWide -/
def g22b {α : Type} (G_g64 : {α : Type} → Bool → (List Int) → (Bool → Option α) → Option α)  (q21 : Bool) (u22 : List Int) (k29 : Bool → Option α) : Option α :=
  G_g64 q21 u22
    (fun b28 =>
      k29 b28)
def g22 {α : Type} (m : Nat) : Bool → (List Int) → (Bool → Option α) → Option α :=
  g22b (g64 m)
def g22tp : List TP := [(.vl (.agg [(.one .bool), (.seq (.int .u32) 6)]))]
def g22bp : List BP := []
def g22K {α : Type} (G : Bool → (List Int) → (Bool → Option α) → Option α) (ls : List Lf) (k : TV → List (List Seg) → List (List Seg) → Option α) : Option α :=
  G (lf ls 0).bool ((lf ls 1).lst (.int .u32))
    (fun y0 => k (.vl (.sv (.bool y0))) [] [])
def g22hd (G_g64 : {α : Type} → Bool → (List Int) → (Bool → Option α) → Option α)  : Hd where
  call := fun f args Bs k => cond (Nat.beq f 64) (rowK g64tp g64bp (g64K G_g64) args Bs k) (none)
  loop := fun id st k => none
def g22h (m : Nat) : Hd := g22hd (g64 m)
theorem g22Main (G_g64 : {α : Type} → Bool → (List Int) → (Bool → Option α) → Option α)  {α : Type} (ls : List Lf) (k : TV → List (List Seg) → List (List Seg) → Option α) :
    g22K (g22b G_g64) ls k = evFun tab (g22hd G_g64) Go.Proofs.Try.f22 (fillT g22tp ls).1 (fillB g22bp (fillT g22tp ls).2).1 k := by kernel_rfl
theorem g22Calls (m : Nat) : (g22h m).CallsOk Go.Proofs.Try.prog := (cok_cons (g64Ok m) cok_nil)
theorem g22Fn (m : Nat) : FnOk Go.Proofs.Try.prog 22 g22tp g22bp (fun {α} => g22K (g22 (α := α) m)) :=
  fn_ok (tab := tab) (h := g22h m) (fn := Go.Proofs.Try.f22) (F := fun {α} => g22K (g22 (α := α) m)) tabOk (g22Calls m) mixed (by kernel_rfl) (by kernel_rfl) (fun c hc => by
    rw [bodyOf_some hc]
    exact loopsOk_of _ (fun p hp => by rw [show loopsOf (bodyOf Go.Proofs.Try.f22) = [] by kernel_rfl] at hp; cases hp))
    (fun α ls k => g22Main (g64 m) ls k)
theorem g22Ok (m : Nat) : RowOk Go.Proofs.Try.prog 22 (fun {α} => rowK g22tp g22bp (g22K (g22 (α := α) m))) := row_of (g22Fn m)

/-! ### g24: impl.ValidWide -/
def g24b {α : Type}   (q32 : Bool) (u33 : List Int) (k36 : Bool → Option α) : Option α :=
  cond (!q32)
   (
    k36 true)
   (
    k36 (!(eqLI u33 [0, 0, 0, 0, 0, 0])))
def g24 {α : Type} (m : Nat) : Bool → (List Int) → (Bool → Option α) → Option α :=
  g24b
def g24tp : List TP := [(.vl (.agg [(.one .bool), (.seq (.int .u32) 6)]))]
def g24bp : List BP := []
def g24K {α : Type} (G : Bool → (List Int) → (Bool → Option α) → Option α) (ls : List Lf) (k : TV → List (List Seg) → List (List Seg) → Option α) : Option α :=
  G (lf ls 0).bool ((lf ls 1).lst (.int .u32))
    (fun y0 => k (.vl (.sv (.bool y0))) [] [])
def g24hd   : Hd where
  call := fun f args Bs k => none
  loop := fun id st k => none
def g24h (m : Nat) : Hd := g24hd
theorem g24Main   {α : Type} (ls : List Lf) (k : TV → List (List Seg) → List (List Seg) → Option α) :
    g24K (g24b) ls k = evFun tab (g24hd) Go.Proofs.Try.f24 (fillT g24tp ls).1 (fillB g24bp (fillT g24tp ls).2).1 k := by kernel_rfl
theorem g24Calls (m : Nat) : (g24h m).CallsOk Go.Proofs.Try.prog := cok_nil
theorem g24Fn (m : Nat) : FnOk Go.Proofs.Try.prog 24 g24tp g24bp (fun {α} => g24K (g24 (α := α) m)) :=
  fn_ok (tab := tab) (h := g24h m) (fn := Go.Proofs.Try.f24) (F := fun {α} => g24K (g24 (α := α) m)) tabOk (g24Calls m) mixed (by kernel_rfl) (by kernel_rfl) (fun c hc => by
    rw [bodyOf_some hc]
    exact loopsOk_of _ (fun p hp => by rw [show loopsOf (bodyOf Go.Proofs.Try.f24) = [] by kernel_rfl] at hp; cases hp))
    (fun α ls k => g24Main ls k)
theorem g24Ok (m : Nat) : RowOk Go.Proofs.Try.prog 24 (fun {α} => rowK g24tp g24bp (g24K (g24 (α := α) m))) := row_of (g24Fn m)

/-! ### g3: laws.FnExactValidWide -/
def g3b {α : Type} (G_g23 : {α : Type} → Bool → (List Int) → ((List Int) → Option α) → Option α) (G_g22 : {α : Type} → Bool → (List Int) → (Bool → Option α) → Option α) (G_g24 : {α : Type} → Bool → (List Int) → (Bool → Option α) → Option α)  (q1 : Bool) (u2 : List Int) (k39 : Bool → Option α) : Option α :=
  G_g23 q1 u2
    (fun l20 =>
      G_g22 q1 l20
        (fun b30 =>
          G_g23 q1 u2
            (fun l31 =>
              G_g24 q1 l31
                (fun b37 =>
                  cond (!(b37 == b30))
                   (
                    k39 false)
                   (
                    k39 true)))))
def g3 {α : Type} (m : Nat) : Bool → (List Int) → (Bool → Option α) → Option α :=
  g3b (g23 m) (g22 m) (g24 m)
def g3tp : List TP := [(.vl (.agg [(.one .bool), (.seq (.int .u32) 6)]))]
def g3bp : List BP := []
def g3K {α : Type} (G : Bool → (List Int) → (Bool → Option α) → Option α) (ls : List Lf) (k : TV → List (List Seg) → List (List Seg) → Option α) : Option α :=
  G (lf ls 0).bool ((lf ls 1).lst (.int .u32))
    (fun y0 => k (.vl (.sv (.bool y0))) [] [])
def g3hd (G_g23 : {α : Type} → Bool → (List Int) → ((List Int) → Option α) → Option α) (G_g22 : {α : Type} → Bool → (List Int) → (Bool → Option α) → Option α) (G_g24 : {α : Type} → Bool → (List Int) → (Bool → Option α) → Option α)  : Hd where
  call := fun f args Bs k => cond (Nat.beq f 23) (rowK g23tp g23bp (g23K G_g23) args Bs k) (cond (Nat.beq f 22) (rowK g22tp g22bp (g22K G_g22) args Bs k) (cond (Nat.beq f 24) (rowK g24tp g24bp (g24K G_g24) args Bs k) (none)))
  loop := fun id st k => none
def g3h (m : Nat) : Hd := g3hd (g23 m) (g22 m) (g24 m)
theorem g3Main (G_g23 : {α : Type} → Bool → (List Int) → ((List Int) → Option α) → Option α) (G_g22 : {α : Type} → Bool → (List Int) → (Bool → Option α) → Option α) (G_g24 : {α : Type} → Bool → (List Int) → (Bool → Option α) → Option α)  {α : Type} (ls : List Lf) (k : TV → List (List Seg) → List (List Seg) → Option α) :
    g3K (g3b G_g23 G_g22 G_g24) ls k = evFun tab (g3hd G_g23 G_g22 G_g24) Go.Proofs.Try.f3 (fillT g3tp ls).1 (fillB g3bp (fillT g3tp ls).2).1 k := by kernel_rfl
theorem g3Calls (m : Nat) : (g3h m).CallsOk Go.Proofs.Try.prog := (cok_cons (g23Ok m) (cok_cons (g22Ok m) (cok_cons (g24Ok m) cok_nil)))
theorem g3Fn (m : Nat) : FnOk Go.Proofs.Try.prog 3 g3tp g3bp (fun {α} => g3K (g3 (α := α) m)) :=
  fn_ok (tab := tab) (h := g3h m) (fn := Go.Proofs.Try.f3) (F := fun {α} => g3K (g3 (α := α) m)) tabOk (g3Calls m) mixed (by kernel_rfl) (by kernel_rfl) (fun c hc => by
    rw [bodyOf_some hc]
    exact loopsOk_of _ (fun p hp => by rw [show loopsOf (bodyOf Go.Proofs.Try.f3) = [] by kernel_rfl] at hp; cases hp))
    (fun α ls k => g3Main (g23 m) (g22 m) (g24 m) ls k)
theorem g3Ok (m : Nat) : RowOk Go.Proofs.Try.prog 3 (fun {α} => rowK g3tp g3bp (g3K (g3 (α := α) m))) := row_of (g3Fn m)
end Go.Proofs.Ytcccndkeaichcaa.Sx
