/- Functions. Printed by our own sx.py. -/
import Derived.Test.YtobejeiffgehfaaSxT
namespace Go.Proofs.Ytobejeiffgehfaa.Sx
open Go
set_option linter.unusedVariables false
set_option maxRecDepth 100000
/-! ### g11: laws.szNodeS -/
def g11b {α : Type}   (m11 : Nat) (m12 : Nat) (m13 : Nat) (p14 : Int) (m15 : Nat) (u16 : List (List Int)) (k19 : Int → Option α) : Option α :=
  let x17 : Int := IntKind.wrap .i64 (p14 - ((m12 : Nat) : Int))
  cond (decide (x17 < (0 : Int)))
   (
    k19 (-1 : Int))
   (
    k19 x17)
def g11 {α : Type} (m : Nat) : Nat → Nat → Nat → Int → Nat → (List (List Int)) → (Int → Option α) → Option α :=
  g11b
def g11tp : List TP := [(.vl (.sv (.sla 0 0 5))), (.vl (.sv (.int .i64)))]
def g11bp : List BP := [(false, [(.seqv (.rc [.i8, .i16, .i16, .i64, .i64]))])]
def g11K {α : Type} (G : Nat → Nat → Nat → Int → Nat → (List (List Int)) → (Int → Option α) → Option α) (ls : List Lf) (k : TV → List (List Seg) → List (List Seg) → Option α) : Option α :=
  G (lf ls 0).nat (lf ls 1).nat (lf ls 2).nat (lf ls 3).int (lf ls 4).nat ((lf ls 5).lst (.rc [.i8, .i16, .i16, .i64, .i64]))
    (fun y0 => k (.vl (.sv (.int .i64 y0))) [[(.seq (.rc [.i8, .i16, .i16, .i64, .i64]) (lf ls 4).nat ((lf ls 5).lst (.rc [.i8, .i16, .i16, .i64, .i64])))]] [])
def g11hd   : Hd where
  call := fun f args Bs k => none
  loop := fun id st k => none
  ro := fun f => []
def g11h (m : Nat) : Hd := g11hd
theorem g11Main   {α : Type} (ls : List Lf) (k : TV → List (List Seg) → List (List Seg) → Option α) :
    g11K (g11b) ls k = evFun tab (g11hd) Go.Proofs.Try.f11 (fillT g11tp ls).1 (fillB g11bp (fillT g11tp ls).2).1 k := by kernel_rfl
theorem g11Calls (m : Nat) : (g11h m).CallsOk Go.Proofs.Try.prog := cok_nil
theorem g11Fn (m : Nat) : FnOk Go.Proofs.Try.prog 11 g11tp g11bp (fun {α} => g11K (g11 (α := α) m)) :=
  fn_ok (tab := tab) (h := g11h m) (fn := Go.Proofs.Try.f11) (F := fun {α} => g11K (g11 (α := α) m)) tabOk (g11Calls m) mixed (by kernel_rfl) (by kernel_rfl) (fun c hc => by
    rw [bodyOf_some hc]
    exact loopsOk_of _ (fun p hp => by rw [show loopsOf (bodyOf Go.Proofs.Try.f11) = [] by kernel_rfl] at hp; cases hp))
    (fun α ls k => g11Main ls k)
theorem g11Ok (m : Nat) : RowOk Go.Proofs.Try.prog 11 (fun {α} => rowK g11tp g11bp (g11K (g11 (α := α) m))) := row_of (g11Fn m)

/-! ### g39: laws.toNode -/
def g39b {α : Type}   (p47 : Int) (p48 : Int) (p49 : Int) (p50 : Int) (p51 : Int) (k52 : Option α) : Option α :=
  k52
def g39 {α : Type} (m : Nat) : Int → Int → Int → Int → Int → (Option α) → Option α :=
  g39b
def g39tp : List TP := [(.vl (.agg [(.one (.int .i8)), (.one (.int .i16)), (.one (.int .i16)), (.one (.int .i64)), (.one (.int .i64))]))]
def g39bp : List BP := []
def g39K {α : Type} (G : Int → Int → Int → Int → Int → (Option α) → Option α) (ls : List Lf) (k : TV → List (List Seg) → List (List Seg) → Option α) : Option α :=
  G (lf ls 0).int (lf ls 1).int (lf ls 2).int (lf ls 3).int (lf ls 4).int
    (k (.vl (.agg [(.one (.int .i8 (lf ls 0).int)), (.one (.int .i16 (lf ls 1).int)), (.one (.int .i16 (lf ls 2).int)), (.one (.int .i64 (lf ls 3).int)), (.one (.int .i64 (lf ls 4).int))])) [] [])
def g39hd   : Hd where
  call := fun f args Bs k => none
  loop := fun id st k => none
  ro := fun f => []
def g39h (m : Nat) : Hd := g39hd
theorem g39Main   {α : Type} (ls : List Lf) (k : TV → List (List Seg) → List (List Seg) → Option α) :
    g39K (g39b) ls k = evFun tab (g39hd) Go.Proofs.Try.f39 (fillT g39tp ls).1 (fillB g39bp (fillT g39tp ls).2).1 k := by kernel_rfl
theorem g39Calls (m : Nat) : (g39h m).CallsOk Go.Proofs.Try.prog := cok_nil
theorem g39Fn (m : Nat) : FnOk Go.Proofs.Try.prog 39 g39tp g39bp (fun {α} => g39K (g39 (α := α) m)) :=
  fn_ok (tab := tab) (h := g39h m) (fn := Go.Proofs.Try.f39) (F := fun {α} => g39K (g39 (α := α) m)) tabOk (g39Calls m) mixed (by kernel_rfl) (by kernel_rfl) (fun c hc => by
    rw [bodyOf_some hc]
    exact loopsOk_of _ (fun p hp => by rw [show loopsOf (bodyOf Go.Proofs.Try.f39) = [] by kernel_rfl] at hp; cases hp))
    (fun α ls k => g39Main ls k)
theorem g39Ok (m : Nat) : RowOk Go.Proofs.Try.prog 39 (fun {α} => rowK g39tp g39bp (g39K (g39 (α := α) m))) := row_of (g39Fn m)

/-! ### g13: laws.toNodeS -/
def g13l0b {α : Type} (G_g39 : {α : Type} → Int → Int → Int → Int → Int → (Option α) → Option α)  (m30 : Nat) (m31 : Nat) (m32 : Nat) (m33 : Nat) (m34 : Nat) (m35 : Nat) (m37 : Nat) (a38 : List (List Int)) (m39 : Nat) (k55 : (List (List Int)) → Option α) (r56 : Int → (List (List Int)) → Option α) (v36 : Int) (a40 : List (List Int)) : Option α :=
  cond (decide (v36 < ((m31 : Nat) : Int)))
   (
    if 0 ≤ v36 ∧ v36 < (m31 : Nat) then
      if (m30 + v36.toNat) < m37 then
        let x42 : Int := (List.getD a38 (m30 + v36.toNat) []).headD 0
        let x43 : Int := (List.getD a38 (m30 + v36.toNat) []).tail.headD 0
        let x44 : Int := (List.getD a38 (m30 + v36.toNat) []).tail.tail.headD 0
        let x45 : Int := (List.getD a38 (m30 + v36.toNat) []).tail.tail.tail.headD 0
        let x46 : Int := (List.getD a38 (m30 + v36.toNat) []).tail.tail.tail.tail.headD 0
        G_g39 x42 x43 x44 x45 x46
          (
            if 0 ≤ v36 ∧ v36 < (m34 : Nat) then
              if (m33 + v36.toNat) < m39 then
                r56 (IntKind.wrap .i64 (v36 + (1 : Int))) (List.set a40 (m33 + v36.toNat) [x42, x43, x44, x45, x46])
              else
                none
            else
              none)
      else
        none
    else
      none)
   (
    k55 a40)
def g13l0 {α : Type} (G_g39 : {α : Type} → Int → Int → Int → Int → Int → (Option α) → Option α)  (m30 : Nat) (m31 : Nat) (m32 : Nat) (m33 : Nat) (m34 : Nat) (m35 : Nat) (m37 : Nat) (a38 : List (List Int)) (m39 : Nat) (k55 : (List (List Int)) → Option α) : Nat → Int → (List (List Int)) → Option α
  | 0 => fun _ _ => none
  | m + 1 => fun v36 a40 => g13l0b G_g39 m30 m31 m32 m33 m34 m35 m37 a38 m39 k55 (g13l0 G_g39 m30 m31 m32 m33 m34 m35 m37 a38 m39 k55 m) v36 a40
def g13l0M {α : Type} (m : Nat) : Nat → Nat → Nat → Nat → Nat → Nat → Nat → (List (List Int)) → Nat → ((List (List Int)) → Option α) → Int → (List (List Int)) → Option α :=
  fun m30 m31 m32 m33 m34 m35 m37 a38 m39 k55 v36 a40 => g13l0 (g39 m) m30 m31 m32 m33 m34 m35 m37 a38 m39 k55 m v36 a40
def g13l0D : LoopD := { n := 23, low := [0], sl := [0, 3, 4], bl := [0, 1000001], tp := [(.vl (.sv (.sla 0 0 5))), (.vl (.sv (.slc 1000001 0 5))), (.vl (.sv (.int .i64)))], bp := [(false, [(.seqv (.rc [.i8, .i16, .i16, .i64, .i64]))]), (true, [(.seqv (.rc [.i8, .i16, .i16, .i64, .i64]))])], xs := [(2, [3])] }
def g13l0K {α : Type} (L : Nat → Nat → Nat → Nat → Nat → Nat → Nat → (List (List Int)) → Nat → ((List (List Int)) → Option α) → Int → (List (List Int)) → Option α) (ls : List Lf) (k : Ex → St → Option α) : Option α :=
  L (lf ls 0).nat (lf ls 1).nat (lf ls 2).nat (lf ls 3).nat (lf ls 4).nat (lf ls 5).nat (lf ls 7).nat ((lf ls 8).lst (.rc [.i8, .i16, .i16, .i64, .i64])) (lf ls 9).nat
    (fun y6 => k .normal (mkSt 23 [3] [(.vl (.sv (.slc 1000001 0 5 (lf ls 3).nat (lf ls 4).nat (lf ls 5).nat)))] [0, 1000001] [(false, [(.seq (.rc [.i8, .i16, .i16, .i64, .i64]) (lf ls 7).nat ((lf ls 8).lst (.rc [.i8, .i16, .i16, .i64, .i64])))]), (true, [(.seq (.rc [.i8, .i16, .i16, .i64, .i64]) (lf ls 9).nat y6)])]))
    (lf ls 6).int ((lf ls 10).lst (.rc [.i8, .i16, .i16, .i64, .i64]))
def g13b {α : Type} (G_g39 : {α : Type} → Int → Int → Int → Int → Int → (Option α) → Option α) (L_g13l0 : {α : Type} → Nat → Nat → Nat → Nat → Nat → Nat → Nat → (List (List Int)) → Nat → ((List (List Int)) → Option α) → Int → (List (List Int)) → Option α) (m24 : Nat) (m25 : Nat) (m26 : Nat) (m27 : Nat) (u28 : List (List Int)) (k58 : (List (List Int)) → Option α) : Option α :=
  if ((m25 : Nat) : Int) = ((m25 : Nat) : Int) ∧ 0 ≤ ((m25 : Nat) : Int) ∧ ((m25 : Nat) : Int) ≤ 1048576 then
    L_g13l0 m24 m25 m26 0 m25 m25 m27 u28 m25
      (fun l57 =>
        k58 l57)
      (0 : Int) (List.replicate m25 ([] : List Int))
  else
    none
def g13 {α : Type} (m : Nat) : Nat → Nat → Nat → Nat → (List (List Int)) → ((List (List Int)) → Option α) → Option α :=
  g13b (g39 m) (g13l0M m)
def g13tp : List TP := [(.vl (.sv (.sla 0 0 5)))]
def g13bp : List BP := [(false, [(.seqv (.rc [.i8, .i16, .i16, .i64, .i64]))])]
def g13K {α : Type} (G : Nat → Nat → Nat → Nat → (List (List Int)) → ((List (List Int)) → Option α) → Option α) (ls : List Lf) (k : TV → List (List Seg) → List (List Seg) → Option α) : Option α :=
  G (lf ls 0).nat (lf ls 1).nat (lf ls 2).nat (lf ls 3).nat ((lf ls 4).lst (.rc [.i8, .i16, .i16, .i64, .i64]))
    (fun y6 => k (.vl (.sv (.slc 1 0 5 0 (lf ls 1).nat (lf ls 1).nat))) [[(.seq (.rc [.i8, .i16, .i16, .i64, .i64]) (lf ls 3).nat ((lf ls 4).lst (.rc [.i8, .i16, .i16, .i64, .i64])))]] [[(.seq (.rc [.i8, .i16, .i16, .i64, .i64]) (lf ls 1).nat y6)]])
def g13hd (G_g39 : {α : Type} → Int → Int → Int → Int → Int → (Option α) → Option α) (L_g13l0 : {α : Type} → Nat → Nat → Nat → Nat → Nat → Nat → Nat → (List (List Int)) → Nat → ((List (List Int)) → Option α) → Int → (List (List Int)) → Option α) : Hd where
  call := fun f args Bs k => cond (Nat.beq f 39) (rowK g39tp g39bp (g39K G_g39) args Bs k) (none)
  loop := fun id st k => cond (Nat.beq id 0) (loopH g13l0D (g13l0K L_g13l0) st k) (none)
  ro := fun f => []
def g13h (m : Nat) : Hd := g13hd (g39 m) (g13l0M m)
theorem g13l0Step (G_g39 : {α : Type} → Int → Int → Int → Int → Int → (Option α) → Option α) (L_g13l0 : {α : Type} → Nat → Nat → Nat → Nat → Nat → Nat → Nat → (List (List Int)) → Nat → ((List (List Int)) → Option α) → Int → (List (List Int)) → Option α) {α : Type} (L : Nat → Nat → Nat → Nat → Nat → Nat → Nat → (List (List Int)) → Nat → ((List (List Int)) → Option α) → Int → (List (List Int)) → Option α) (ls : List Lf) (k : Ex → St → Option α) :
    g13l0K (fun m30 m31 m32 m33 m34 m35 m37 a38 m39 k55 v36 a40 => g13l0b G_g39 m30 m31 m32 m33 m34 m35 m37 a38 m39 k55 (L m30 m31 m32 m33 m34 m35 m37 a38 m39 k55) v36 a40) ls k = ev tab (g13hd G_g39 L_g13l0) (bodyAt Go.Proofs.Try.f13 0) (atHead g13l0D ls) (loopK g13l0D 0 (loopH g13l0D (g13l0K L)) k) := by kernel_rfl
theorem g13Main (G_g39 : {α : Type} → Int → Int → Int → Int → Int → (Option α) → Option α) (L_g13l0 : {α : Type} → Nat → Nat → Nat → Nat → Nat → Nat → Nat → (List (List Int)) → Nat → ((List (List Int)) → Option α) → Int → (List (List Int)) → Option α) {α : Type} (ls : List Lf) (k : TV → List (List Seg) → List (List Seg) → Option α) :
    g13K (g13b G_g39 L_g13l0) ls k = evFun tab (g13hd G_g39 L_g13l0) Go.Proofs.Try.f13 (fillT g13tp ls).1 (fillB g13bp (fillT g13tp ls).2).1 k := by kernel_rfl
theorem g13Calls (m : Nat) : (g13h m).CallsOk Go.Proofs.Try.prog := (cok_cons (g39Ok m) cok_nil)
theorem g13l0Ok (m : Nat) (α : Type) (st : St) (k : Ex → St → Option α) (r : α) (h : (g13h m).loop 0 st k = some r) :
    ∃ e st', k e st' = some r ∧ CodeS Go.Proofs.Try.prog (.block 0 (.loop (bodyAt Go.Proofs.Try.f13 0))) st e st' :=
  loop_ok (tab := tab) (h := g13h m) (F := fun n ls k => g13l0K (fun m30 m31 m32 m33 m34 m35 m37 a38 m39 k55 v36 a40 => g13l0 (g39 m) m30 m31 m32 m33 m34 m35 m37 a38 m39 k55 n v36 a40) ls k) tabOk (g13Calls m) mixed (loopsOk_of _ (fun p hp => by rw [show loopsOf (bodyAt Go.Proofs.Try.f13 0) = [] by kernel_rfl] at hp; cases hp))
    (fun _ _ => rfl) (fun n ls k => g13l0Step (g39 m) (g13l0M m) (fun m30 m31 m32 m33 m34 m35 m37 a38 m39 k55 => g13l0 (g39 m) m30 m31 m32 m33 m34 m35 m37 a38 m39 k55 n) ls k) (n := m) h
theorem g13Fn (m : Nat) : FnOk Go.Proofs.Try.prog 13 g13tp g13bp (fun {α} => g13K (g13 (α := α) m)) :=
  fn_ok (tab := tab) (h := g13h m) (fn := Go.Proofs.Try.f13) (F := fun {α} => g13K (g13 (α := α) m)) tabOk (g13Calls m) mixed (by kernel_rfl) (by kernel_rfl) (fun c hc => by
    rw [bodyOf_some hc]
    exact loopsOk_of _ (fun p hp => by
    rw [show loopsOf (bodyOf Go.Proofs.Try.f13) = [(0, bodyAt Go.Proofs.Try.f13 0)] by kernel_rfl] at hp
    simp only [List.mem_cons, List.not_mem_nil, or_false] at hp
    rcases hp with rfl
    exact g13l0Ok m))
    (fun α ls k => g13Main (g39 m) (g13l0M m) ls k)
theorem g13Ok (m : Nat) : RowOk Go.Proofs.Try.prog 13 (fun {α} => rowK g13tp g13bp (g13K (g13 (α := α) m))) := row_of (g13Fn m)

/-! ### g81: spec.l00In -/
def g81b {α : Type}   (p76 : Int) (p77 : Int) (p78 : Int) (k81 : Bool → Option α) : Option α :=
  cond (decide (p76 ≥ p77))
   (
    k81 (decide (p76 ≤ p78)))
   (
    k81 false)
def g81 {α : Type} (m : Nat) : Int → Int → Int → (Bool → Option α) → Option α :=
  g81b
def g81tp : List TP := [(.vl (.sv (.int .i64))), (.vl (.sv (.int .i64))), (.vl (.sv (.int .i64)))]
def g81bp : List BP := []
def g81K {α : Type} (G : Int → Int → Int → (Bool → Option α) → Option α) (ls : List Lf) (k : TV → List (List Seg) → List (List Seg) → Option α) : Option α :=
  G (lf ls 0).int (lf ls 1).int (lf ls 2).int
    (fun y0 => k (.vl (.sv (.bool y0))) [] [])
def g81hd   : Hd where
  call := fun f args Bs k => none
  loop := fun id st k => none
  ro := fun f => []
def g81h (m : Nat) : Hd := g81hd
theorem g81Main   {α : Type} (ls : List Lf) (k : TV → List (List Seg) → List (List Seg) → Option α) :
    g81K (g81b) ls k = evFun tab (g81hd) Go.Proofs.Try.f81 (fillT g81tp ls).1 (fillB g81bp (fillT g81tp ls).2).1 k := by kernel_rfl
theorem g81Calls (m : Nat) : (g81h m).CallsOk Go.Proofs.Try.prog := cok_nil
theorem g81Fn (m : Nat) : FnOk Go.Proofs.Try.prog 81 g81tp g81bp (fun {α} => g81K (g81 (α := α) m)) :=
  fn_ok (tab := tab) (h := g81h m) (fn := Go.Proofs.Try.f81) (F := fun {α} => g81K (g81 (α := α) m)) tabOk (g81Calls m) mixed (by kernel_rfl) (by kernel_rfl) (fun c hc => by
    rw [bodyOf_some hc]
    exact loopsOk_of _ (fun p hp => by rw [show loopsOf (bodyOf Go.Proofs.Try.f81) = [] by kernel_rfl] at hp; cases hp))
    (fun α ls k => g81Main ls k)
theorem g81Ok (m : Nat) : RowOk Go.Proofs.Try.prog 81 (fun {α} => rowK g81tp g81bp (g81K (g81 (α := α) m))) := row_of (g81Fn m)

/-! ### g95: spec.l02One -/
def g95b {α : Type}   (p100 : Int) (k104 : Bool → Option α) : Option α :=
  cond (p100 == (6 : Int))
   (
    k104 true)
   (
    cond (p100 == (7 : Int))
     (
      k104 true)
     (
      k104 (p100 == (10 : Int))))
def g95 {α : Type} (m : Nat) : Int → (Bool → Option α) → Option α :=
  g95b
def g95tp : List TP := [(.vl (.sv (.int .i8)))]
def g95bp : List BP := []
def g95K {α : Type} (G : Int → (Bool → Option α) → Option α) (ls : List Lf) (k : TV → List (List Seg) → List (List Seg) → Option α) : Option α :=
  G (lf ls 0).int
    (fun y0 => k (.vl (.sv (.bool y0))) [] [])
def g95hd   : Hd where
  call := fun f args Bs k => none
  loop := fun id st k => none
  ro := fun f => []
def g95h (m : Nat) : Hd := g95hd
theorem g95Main   {α : Type} (ls : List Lf) (k : TV → List (List Seg) → List (List Seg) → Option α) :
    g95K (g95b) ls k = evFun tab (g95hd) Go.Proofs.Try.f95 (fillT g95tp ls).1 (fillB g95bp (fillT g95tp ls).2).1 k := by kernel_rfl
theorem g95Calls (m : Nat) : (g95h m).CallsOk Go.Proofs.Try.prog := cok_nil
theorem g95Fn (m : Nat) : FnOk Go.Proofs.Try.prog 95 g95tp g95bp (fun {α} => g95K (g95 (α := α) m)) :=
  fn_ok (tab := tab) (h := g95h m) (fn := Go.Proofs.Try.f95) (F := fun {α} => g95K (g95 (α := α) m)) tabOk (g95Calls m) mixed (by kernel_rfl) (by kernel_rfl) (fun c hc => by
    rw [bodyOf_some hc]
    exact loopsOk_of _ (fun p hp => by rw [show loopsOf (bodyOf Go.Proofs.Try.f95) = [] by kernel_rfl] at hp; cases hp))
    (fun α ls k => g95Main ls k)
theorem g95Ok (m : Nat) : RowOk Go.Proofs.Try.prog 95 (fun {α} => rowK g95tp g95bp (g95K (g95 (α := α) m))) := row_of (g95Fn m)

/-! ### g96: spec.l02Two -/
def g96b {α : Type}   (p116 : Int) (k123 : Bool → Option α) : Option α :=
  cond (decide (p116 ≥ (2 : Int)))
   (
    cond (decide (p116 ≤ (5 : Int)))
     (
      k123 true)
     (
      cond (p116 == (8 : Int))
       (
        k123 true)
       (
        k123 (p116 == (9 : Int)))))
   (
    cond (p116 == (8 : Int))
     (
      k123 true)
     (
      k123 (p116 == (9 : Int))))
def g96 {α : Type} (m : Nat) : Int → (Bool → Option α) → Option α :=
  g96b
def g96tp : List TP := [(.vl (.sv (.int .i8)))]
def g96bp : List BP := []
def g96K {α : Type} (G : Int → (Bool → Option α) → Option α) (ls : List Lf) (k : TV → List (List Seg) → List (List Seg) → Option α) : Option α :=
  G (lf ls 0).int
    (fun y0 => k (.vl (.sv (.bool y0))) [] [])
def g96hd   : Hd where
  call := fun f args Bs k => none
  loop := fun id st k => none
  ro := fun f => []
def g96h (m : Nat) : Hd := g96hd
theorem g96Main   {α : Type} (ls : List Lf) (k : TV → List (List Seg) → List (List Seg) → Option α) :
    g96K (g96b) ls k = evFun tab (g96hd) Go.Proofs.Try.f96 (fillT g96tp ls).1 (fillB g96bp (fillT g96tp ls).2).1 k := by kernel_rfl
theorem g96Calls (m : Nat) : (g96h m).CallsOk Go.Proofs.Try.prog := cok_nil
theorem g96Fn (m : Nat) : FnOk Go.Proofs.Try.prog 96 g96tp g96bp (fun {α} => g96K (g96 (α := α) m)) :=
  fn_ok (tab := tab) (h := g96h m) (fn := Go.Proofs.Try.f96) (F := fun {α} => g96K (g96 (α := α) m)) tabOk (g96Calls m) mixed (by kernel_rfl) (by kernel_rfl) (fun c hc => by
    rw [bodyOf_some hc]
    exact loopsOk_of _ (fun p hp => by rw [show loopsOf (bodyOf Go.Proofs.Try.f96) = [] by kernel_rfl] at hp; cases hp))
    (fun α ls k => g96Main ls k)
theorem g96Ok (m : Nat) : RowOk Go.Proofs.Try.prog 96 (fun {α} => rowK g96tp g96bp (g96K (g96 (α := α) m))) := row_of (g96Fn m)

/-! ### g82: spec.l02Node -/
def g82b {α : Type} (G_g95 : {α : Type} → Int → (Bool → Option α) → Option α) (G_g81 : {α : Type} → Int → Int → Int → (Bool → Option α) → Option α) (G_g96 : {α : Type} → Int → (Bool → Option α) → Option α)  (m91 : Nat) (p92 : Int) (m93 : Nat) (u94 : List (List Int)) (k164 : Bool → Option α) : Option α :=
  if m91 < m93 then
    cond (decide (((List.getD u94 m91 []).headD 0) < (1 : Int)))
     (
      k164 false)
     (
      if m91 < m93 then
        cond (decide (((List.getD u94 m91 []).headD 0) > (12 : Int)))
         (
          k164 false)
         (
          if m91 < m93 then
            G_g95 ((List.getD u94 m91 []).headD 0)
              (fun b105 =>
                cond b105
                 (
                  if m91 < m93 then
                    G_g81 (IntKind.wrap .i64 (((List.getD u94 m91 []).tail).headD 0)) (0 : Int) (IntKind.wrap .i64 (p92 - (1 : Int)))
                      (fun b109 =>
                        cond (!b109)
                         (
                          k164 false)
                         (
                          if m91 < m93 then
                            cond ((((List.getD u94 m91 []).tail.tail.tail).headD 0) != (0 : Int))
                             (
                              k164 false)
                             (
                              if m91 < m93 then
                                cond ((((List.getD u94 m91 []).tail.tail.tail.tail).headD 0) != (0 : Int))
                                 (
                                  k164 false)
                                 (
                                  if m91 < m93 then
                                    G_g96 ((List.getD u94 m91 []).headD 0)
                                      (fun b124 =>
                                        cond b124
                                         (
                                          if m91 < m93 then
                                            G_g81 (IntKind.wrap .i64 (((List.getD u94 m91 []).tail.tail).headD 0)) (0 : Int) (IntKind.wrap .i64 (p92 - (1 : Int)))
                                              (fun b128 =>
                                                k164 b128)
                                          else
                                            none)
                                         (
                                          if m91 < m93 then
                                            k164 ((((List.getD u94 m91 []).tail.tail).headD 0) == (0 : Int))
                                          else
                                            none))
                                  else
                                    none)
                              else
                                none)
                          else
                            none))
                  else
                    none)
                 (
                  if m91 < m93 then
                    G_g96 ((List.getD u94 m91 []).headD 0)
                      (fun b132 =>
                        cond b132
                         (
                          if m91 < m93 then
                            G_g81 (IntKind.wrap .i64 (((List.getD u94 m91 []).tail).headD 0)) (0 : Int) (IntKind.wrap .i64 (p92 - (1 : Int)))
                              (fun b136 =>
                                cond (!b136)
                                 (
                                  k164 false)
                                 (
                                  if m91 < m93 then
                                    cond ((((List.getD u94 m91 []).tail.tail.tail).headD 0) != (0 : Int))
                                     (
                                      k164 false)
                                     (
                                      if m91 < m93 then
                                        cond ((((List.getD u94 m91 []).tail.tail.tail.tail).headD 0) != (0 : Int))
                                         (
                                          k164 false)
                                         (
                                          if m91 < m93 then
                                            G_g96 ((List.getD u94 m91 []).headD 0)
                                              (fun b143 =>
                                                cond b143
                                                 (
                                                  if m91 < m93 then
                                                    G_g81 (IntKind.wrap .i64 (((List.getD u94 m91 []).tail.tail).headD 0)) (0 : Int) (IntKind.wrap .i64 (p92 - (1 : Int)))
                                                      (fun b147 =>
                                                        k164 b147)
                                                  else
                                                    none)
                                                 (
                                                  if m91 < m93 then
                                                    k164 ((((List.getD u94 m91 []).tail.tail).headD 0) == (0 : Int))
                                                  else
                                                    none))
                                          else
                                            none)
                                      else
                                        none)
                                  else
                                    none))
                          else
                            none)
                         (
                          if m91 < m93 then
                            cond ((((List.getD u94 m91 []).tail).headD 0) != (0 : Int))
                             (
                              k164 false)
                             (
                              if m91 < m93 then
                                cond ((((List.getD u94 m91 []).tail.tail).headD 0) != (0 : Int))
                                 (
                                  k164 false)
                                 (
                                  if m91 < m93 then
                                    cond (((List.getD u94 m91 []).headD 0) == (1 : Int))
                                     (
                                      if m91 < m93 then
                                        G_g81 (((List.getD u94 m91 []).tail.tail.tail).headD 0) (-1000000000 : Int) (1000000000 : Int)
                                          (fun b157 =>
                                            cond b157
                                             (
                                              if m91 < m93 then
                                                G_g81 (((List.getD u94 m91 []).tail.tail.tail.tail).headD 0) (1 : Int) (1000000000 : Int)
                                                  (fun b159 =>
                                                    k164 b159)
                                              else
                                                none)
                                             (
                                              k164 false))
                                      else
                                        none)
                                     (
                                      if m91 < m93 then
                                        cond ((((List.getD u94 m91 []).tail.tail.tail).headD 0) == (0 : Int))
                                         (
                                          if m91 < m93 then
                                            k164 ((((List.getD u94 m91 []).tail.tail.tail.tail).headD 0) == (0 : Int))
                                          else
                                            none)
                                         (
                                          k164 false)
                                      else
                                        none)
                                  else
                                    none)
                              else
                                none)
                          else
                            none))
                  else
                    none))
          else
            none)
      else
        none)
  else
    none
def g82 {α : Type} (m : Nat) : Nat → Int → Nat → (List (List Int)) → (Bool → Option α) → Option α :=
  g82b (g95 m) (g81 m) (g96 m)
def g82tp : List TP := [(.vl (.sv (.el 0 0 5 0))), (.vl (.sv (.int .i64)))]
def g82bp : List BP := [(false, [(.seqv (.rc [.i8, .i16, .i16, .i64, .i64]))])]
def g82K {α : Type} (G : Nat → Int → Nat → (List (List Int)) → (Bool → Option α) → Option α) (ls : List Lf) (k : TV → List (List Seg) → List (List Seg) → Option α) : Option α :=
  G (lf ls 0).nat (lf ls 1).int (lf ls 2).nat ((lf ls 3).lst (.rc [.i8, .i16, .i16, .i64, .i64]))
    (fun y0 => k (.vl (.sv (.bool y0))) [[(.seq (.rc [.i8, .i16, .i16, .i64, .i64]) (lf ls 2).nat ((lf ls 3).lst (.rc [.i8, .i16, .i16, .i64, .i64])))]] [])
def g82hd (G_g95 : {α : Type} → Int → (Bool → Option α) → Option α) (G_g81 : {α : Type} → Int → Int → Int → (Bool → Option α) → Option α) (G_g96 : {α : Type} → Int → (Bool → Option α) → Option α)  : Hd where
  call := fun f args Bs k => cond (Nat.beq f 95) (rowK g95tp g95bp (g95K G_g95) args Bs k) (cond (Nat.beq f 81) (rowK g81tp g81bp (g81K G_g81) args Bs k) (cond (Nat.beq f 96) (rowK g96tp g96bp (g96K G_g96) args Bs k) (none)))
  loop := fun id st k => none
  ro := fun f => []
def g82h (m : Nat) : Hd := g82hd (g95 m) (g81 m) (g96 m)
theorem g82Main (G_g95 : {α : Type} → Int → (Bool → Option α) → Option α) (G_g81 : {α : Type} → Int → Int → Int → (Bool → Option α) → Option α) (G_g96 : {α : Type} → Int → (Bool → Option α) → Option α)  {α : Type} (ls : List Lf) (k : TV → List (List Seg) → List (List Seg) → Option α) :
    g82K (g82b G_g95 G_g81 G_g96) ls k = evFun tab (g82hd G_g95 G_g81 G_g96) Go.Proofs.Try.f82 (fillT g82tp ls).1 (fillB g82bp (fillT g82tp ls).2).1 k := by kernel_rfl
theorem g82Calls (m : Nat) : (g82h m).CallsOk Go.Proofs.Try.prog := (cok_cons (g95Ok m) (cok_cons (g81Ok m) (cok_cons (g96Ok m) cok_nil)))
theorem g82Fn (m : Nat) : FnOk Go.Proofs.Try.prog 82 g82tp g82bp (fun {α} => g82K (g82 (α := α) m)) :=
  fn_ok (tab := tab) (h := g82h m) (fn := Go.Proofs.Try.f82) (F := fun {α} => g82K (g82 (α := α) m)) tabOk (g82Calls m) mixed (by kernel_rfl) (by kernel_rfl) (fun c hc => by
    rw [bodyOf_some hc]
    exact loopsOk_of _ (fun p hp => by rw [show loopsOf (bodyOf Go.Proofs.Try.f82) = [] by kernel_rfl] at hp; cases hp))
    (fun α ls k => g82Main (g95 m) (g81 m) (g96 m) ls k)
theorem g82Ok (m : Nat) : RowOk Go.Proofs.Try.prog 82 (fun {α} => rowK g82tp g82bp (g82K (g82 (α := α) m))) := row_of (g82Fn m)

/-! ### g42: spec.l02Ok -/
def g42l0b {α : Type} (G_g82 : {α : Type} → Nat → Int → Nat → (List (List Int)) → (Bool → Option α) → Option α)  (m84 : Nat) (m85 : Nat) (m86 : Nat) (m88 : Nat) (a89 : List (List Int)) (k168 : Option α) (k169 : Option α) (r170 : Int → Option α) (v87 : Int) : Option α :=
  cond (decide (v87 < ((m85 : Nat) : Int)))
   (
    if 0 ≤ v87 ∧ v87 < (m85 : Nat) then
      G_g82 (m84 + v87.toNat) v87 m88 a89
        (fun b165 =>
          cond (!b165)
           (
            k168)
           (
            r170 (IntKind.wrap .i64 (v87 + (1 : Int)))))
    else
      none)
   (
    k169)
def g42l0 {α : Type} (G_g82 : {α : Type} → Nat → Int → Nat → (List (List Int)) → (Bool → Option α) → Option α)  (m84 : Nat) (m85 : Nat) (m86 : Nat) (m88 : Nat) (a89 : List (List Int)) (k168 : Option α) (k169 : Option α) : Nat → Int → Option α
  | 0 => fun _ => none
  | m + 1 => fun v87 => g42l0b G_g82 m84 m85 m86 m88 a89 k168 k169 (g42l0 G_g82 m84 m85 m86 m88 a89 k168 k169 m) v87
def g42l0M {α : Type} (m : Nat) : Nat → Nat → Nat → Nat → (List (List Int)) → (Option α) → (Option α) → Int → Option α :=
  fun m84 m85 m86 m88 a89 k168 k169 v87 => g42l0 (g82 m) m84 m85 m86 m88 a89 k168 k169 m v87
def g42l0D : LoopD := { n := 20, low := [0], sl := [0, 3], bl := [0], tp := [(.vl (.sv (.slc 0 0 5))), (.vl (.sv (.int .i64)))], bp := [(false, [(.seqv (.rc [.i8, .i16, .i16, .i64, .i64]))])], xs := [(1, [2]), (2, [])] }
def g42l0K {α : Type} (L : Nat → Nat → Nat → Nat → (List (List Int)) → (Option α) → (Option α) → Int → Option α) (ls : List Lf) (k : Ex → St → Option α) : Option α :=
  L (lf ls 0).nat (lf ls 1).nat (lf ls 2).nat (lf ls 4).nat ((lf ls 5).lst (.rc [.i8, .i16, .i16, .i64, .i64]))
    (k .ret (mkSt 20 [2] [(.vl (.sv (.bool false)))] [0] [(false, [(.seq (.rc [.i8, .i16, .i16, .i64, .i64]) (lf ls 4).nat ((lf ls 5).lst (.rc [.i8, .i16, .i16, .i64, .i64])))])]))
    (k .normal (mkSt 20 [] [] [0] [(false, [(.seq (.rc [.i8, .i16, .i16, .i64, .i64]) (lf ls 4).nat ((lf ls 5).lst (.rc [.i8, .i16, .i16, .i64, .i64])))])]))
    (lf ls 3).int
def g42b {α : Type} (G_g81 : {α : Type} → Int → Int → Int → (Bool → Option α) → Option α) (G_g82 : {α : Type} → Nat → Int → Nat → (List (List Int)) → (Bool → Option α) → Option α) (L_g42l0 : {α : Type} → Nat → Nat → Nat → Nat → (List (List Int)) → (Option α) → (Option α) → Int → Option α) (m71 : Nat) (m72 : Nat) (m73 : Nat) (m74 : Nat) (u75 : List (List Int)) (k171 : Bool → Option α) : Option α :=
  G_g81 ((m72 : Nat) : Int) (1 : Int) (40 : Int)
    (fun b82 =>
      cond (!b82)
       (
        k171 false)
       (
        L_g42l0 m71 m72 m73 m74 u75
          (
            k171 false)
          (
            k171 true)
          (0 : Int)))
def g42 {α : Type} (m : Nat) : Nat → Nat → Nat → Nat → (List (List Int)) → (Bool → Option α) → Option α :=
  g42b (g81 m) (g82 m) (g42l0M m)
def g42tp : List TP := [(.vl (.sv (.slc 0 0 5)))]
def g42bp : List BP := [(false, [(.seqv (.rc [.i8, .i16, .i16, .i64, .i64]))])]
def g42K {α : Type} (G : Nat → Nat → Nat → Nat → (List (List Int)) → (Bool → Option α) → Option α) (ls : List Lf) (k : TV → List (List Seg) → List (List Seg) → Option α) : Option α :=
  G (lf ls 0).nat (lf ls 1).nat (lf ls 2).nat (lf ls 3).nat ((lf ls 4).lst (.rc [.i8, .i16, .i16, .i64, .i64]))
    (fun y0 => k (.vl (.sv (.bool y0))) [[(.seq (.rc [.i8, .i16, .i16, .i64, .i64]) (lf ls 3).nat ((lf ls 4).lst (.rc [.i8, .i16, .i16, .i64, .i64])))]] [])
def g42hd (G_g81 : {α : Type} → Int → Int → Int → (Bool → Option α) → Option α) (G_g82 : {α : Type} → Nat → Int → Nat → (List (List Int)) → (Bool → Option α) → Option α) (L_g42l0 : {α : Type} → Nat → Nat → Nat → Nat → (List (List Int)) → (Option α) → (Option α) → Int → Option α) : Hd where
  call := fun f args Bs k => cond (Nat.beq f 81) (rowK g81tp g81bp (g81K G_g81) args Bs k) (cond (Nat.beq f 82) (rowK g82tp g82bp (g82K G_g82) args Bs k) (none))
  loop := fun id st k => cond (Nat.beq id 0) (loopH g42l0D (g42l0K L_g42l0) st k) (none)
  ro := fun f => cond (Nat.beq f 82) [0] ([])
def g42h (m : Nat) : Hd := g42hd (g81 m) (g82 m) (g42l0M m)
theorem g42l0Step (G_g81 : {α : Type} → Int → Int → Int → (Bool → Option α) → Option α) (G_g82 : {α : Type} → Nat → Int → Nat → (List (List Int)) → (Bool → Option α) → Option α) (L_g42l0 : {α : Type} → Nat → Nat → Nat → Nat → (List (List Int)) → (Option α) → (Option α) → Int → Option α) {α : Type} (L : Nat → Nat → Nat → Nat → (List (List Int)) → (Option α) → (Option α) → Int → Option α) (ls : List Lf) (k : Ex → St → Option α) :
    g42l0K (fun m84 m85 m86 m88 a89 k168 k169 v87 => g42l0b G_g82 m84 m85 m86 m88 a89 k168 k169 (L m84 m85 m86 m88 a89 k168 k169) v87) ls k = ev tab (g42hd G_g81 G_g82 L_g42l0) (bodyAt Go.Proofs.Try.f42 0) (atHead g42l0D ls) (loopK g42l0D 0 (loopH g42l0D (g42l0K L)) k) := by kernel_rfl
theorem g42Main (G_g81 : {α : Type} → Int → Int → Int → (Bool → Option α) → Option α) (G_g82 : {α : Type} → Nat → Int → Nat → (List (List Int)) → (Bool → Option α) → Option α) (L_g42l0 : {α : Type} → Nat → Nat → Nat → Nat → (List (List Int)) → (Option α) → (Option α) → Int → Option α) {α : Type} (ls : List Lf) (k : TV → List (List Seg) → List (List Seg) → Option α) :
    g42K (g42b G_g81 G_g82 L_g42l0) ls k = evFun tab (g42hd G_g81 G_g82 L_g42l0) Go.Proofs.Try.f42 (fillT g42tp ls).1 (fillB g42bp (fillT g42tp ls).2).1 k := by kernel_rfl
theorem g42Calls (m : Nat) : (g42h m).CallsOk Go.Proofs.Try.prog := (cok_cons (g81Ok m) (cok_cons (g82Ok m) cok_nil))
theorem g42l0Ok (m : Nat) (α : Type) (st : St) (k : Ex → St → Option α) (r : α) (h : (g42h m).loop 0 st k = some r) :
    ∃ e st', k e st' = some r ∧ CodeS Go.Proofs.Try.prog (.block 0 (.loop (bodyAt Go.Proofs.Try.f42 0))) st e st' :=
  loop_ok (tab := tab) (h := g42h m) (F := fun n ls k => g42l0K (fun m84 m85 m86 m88 a89 k168 k169 v87 => g42l0 (g82 m) m84 m85 m86 m88 a89 k168 k169 n v87) ls k) tabOk (g42Calls m) mixed (loopsOk_of _ (fun p hp => by rw [show loopsOf (bodyAt Go.Proofs.Try.f42 0) = [] by kernel_rfl] at hp; cases hp))
    (fun _ _ => rfl) (fun n ls k => g42l0Step (g81 m) (g82 m) (g42l0M m) (fun m84 m85 m86 m88 a89 k168 k169 => g42l0 (g82 m) m84 m85 m86 m88 a89 k168 k169 n) ls k) (n := m) h
theorem g42Fn (m : Nat) : FnOk Go.Proofs.Try.prog 42 g42tp g42bp (fun {α} => g42K (g42 (α := α) m)) :=
  fn_ok (tab := tab) (h := g42h m) (fn := Go.Proofs.Try.f42) (F := fun {α} => g42K (g42 (α := α) m)) tabOk (g42Calls m) mixed (by kernel_rfl) (by kernel_rfl) (fun c hc => by
    rw [bodyOf_some hc]
    exact loopsOk_of _ (fun p hp => by
    rw [show loopsOf (bodyOf Go.Proofs.Try.f42) = [(0, bodyAt Go.Proofs.Try.f42 0)] by kernel_rfl] at hp
    simp only [List.mem_cons, List.not_mem_nil, or_false] at hp
    rcases hp with rfl
    exact g42l0Ok m))
    (fun α ls k => g42Main (g81 m) (g82 m) (g42l0M m) ls k)
theorem g42Ok (m : Nat) : RowOk Go.Proofs.Try.prog 42 (fun {α} => rowK g42tp g42bp (g42K (g42 (α := α) m))) := row_of (g42Fn m)

/-! ### g75: spec.l02Moved -/
def g75b {α : Type} (G_g95 : {α : Type} → Int → (Bool → Option α) → Option α) (G_g96 : {α : Type} → Int → (Bool → Option α) → Option α)  (p214 : Int) (p215 : Int) (p216 : Int) (p217 : Int) (p218 : Int) (u219 : List Int) (k235 : Int → Int → Option α) : Option α :=
  G_g95 p214
    (fun b220 =>
      cond b220
       (
        if 0 ≤ p215 ∧ p215 < (u219.length : Nat) then
          if p215.toNat < u219.length then
            let x222 : Int := IntKind.wrap .i16 (List.getD u219 p215.toNat 0)
            G_g96 p214
              (fun b223 =>
                cond b223
                 (
                  if 0 ≤ p216 ∧ p216 < (u219.length : Nat) then
                    if p216.toNat < u219.length then
                      k235 x222 (IntKind.wrap .i16 (List.getD u219 p216.toNat 0))
                    else
                      none
                  else
                    none)
                 (
                  k235 x222 p216))
          else
            none
        else
          none)
       (
        G_g96 p214
          (fun b226 =>
            cond b226
             (
              if 0 ≤ p215 ∧ p215 < (u219.length : Nat) then
                if p215.toNat < u219.length then
                  let x228 : Int := IntKind.wrap .i16 (List.getD u219 p215.toNat 0)
                  G_g96 p214
                    (fun b229 =>
                      cond b229
                       (
                        if 0 ≤ p216 ∧ p216 < (u219.length : Nat) then
                          if p216.toNat < u219.length then
                            k235 x228 (IntKind.wrap .i16 (List.getD u219 p216.toNat 0))
                          else
                            none
                        else
                          none)
                       (
                        k235 x228 p216))
                else
                  none
              else
                none)
             (
              G_g96 p214
                (fun b232 =>
                  cond b232
                   (
                    if 0 ≤ p216 ∧ p216 < (u219.length : Nat) then
                      if p216.toNat < u219.length then
                        k235 p215 (IntKind.wrap .i16 (List.getD u219 p216.toNat 0))
                      else
                        none
                    else
                      none)
                   (
                    k235 p215 p216))))))
def g75 {α : Type} (m : Nat) : Int → Int → Int → Int → Int → (List Int) → (Int → Int → Option α) → Option α :=
  g75b (g95 m) (g96 m)
def g75tp : List TP := [(.vl (.agg [(.one (.int .i8)), (.one (.int .i16)), (.one (.int .i16)), (.one (.int .i64)), (.one (.int .i64))])), (.vl (.sv (.gsl 0 1)))]
def g75bp : List BP := [(false, [(.gro (.int .i64))])]
def g75K {α : Type} (G : Int → Int → Int → Int → Int → (List Int) → (Int → Int → Option α) → Option α) (ls : List Lf) (k : TV → List (List Seg) → List (List Seg) → Option α) : Option α :=
  G (lf ls 0).int (lf ls 1).int (lf ls 2).int (lf ls 3).int (lf ls 4).int ((lf ls 5).lst (.int .i64))
    (fun y1 y2 => k (.vl (.agg [(.one (.int .i8 (lf ls 0).int)), (.one (.int .i16 y1)), (.one (.int .i16 y2)), (.one (.int .i64 (lf ls 3).int)), (.one (.int .i64 (lf ls 4).int))])) [[(.gro (.int .i64) ((lf ls 5).lst (.int .i64)))]] [])
def g75hd (G_g95 : {α : Type} → Int → (Bool → Option α) → Option α) (G_g96 : {α : Type} → Int → (Bool → Option α) → Option α)  : Hd where
  call := fun f args Bs k => cond (Nat.beq f 95) (rowK g95tp g95bp (g95K G_g95) args Bs k) (cond (Nat.beq f 96) (rowK g96tp g96bp (g96K G_g96) args Bs k) (none))
  loop := fun id st k => none
  ro := fun f => []
def g75h (m : Nat) : Hd := g75hd (g95 m) (g96 m)
theorem g75Main (G_g95 : {α : Type} → Int → (Bool → Option α) → Option α) (G_g96 : {α : Type} → Int → (Bool → Option α) → Option α)  {α : Type} (ls : List Lf) (k : TV → List (List Seg) → List (List Seg) → Option α) :
    g75K (g75b G_g95 G_g96) ls k = evFun tab (g75hd G_g95 G_g96) Go.Proofs.Try.f75 (fillT g75tp ls).1 (fillB g75bp (fillT g75tp ls).2).1 k := by kernel_rfl
theorem g75Calls (m : Nat) : (g75h m).CallsOk Go.Proofs.Try.prog := (cok_cons (g95Ok m) (cok_cons (g96Ok m) cok_nil))
theorem g75Fn (m : Nat) : FnOk Go.Proofs.Try.prog 75 g75tp g75bp (fun {α} => g75K (g75 (α := α) m)) :=
  fn_ok (tab := tab) (h := g75h m) (fn := Go.Proofs.Try.f75) (F := fun {α} => g75K (g75 (α := α) m)) tabOk (g75Calls m) mixed (by kernel_rfl) (by kernel_rfl) (fun c hc => by
    rw [bodyOf_some hc]
    exact loopsOk_of _ (fun p hp => by rw [show loopsOf (bodyOf Go.Proofs.Try.f75) = [] by kernel_rfl] at hp; cases hp))
    (fun α ls k => g75Main (g95 m) (g96 m) ls k)
theorem g75Ok (m : Nat) : RowOk Go.Proofs.Try.prog 75 (fun {α} => rowK g75tp g75bp (g75K (g75 (α := α) m))) := row_of (g75Fn m)

/-! ### g32: spec.JoinTerms -/
def g32l0b {α : Type}   (m178 : Nat) (m179 : Nat) (m180 : Nat) (m181 : Nat) (m182 : Nat) (m183 : Nat) (m185 : Nat) (a186 : List (List Int)) (m187 : Nat) (a188 : List (List Int)) (k194 : (List Int) → Option α) (r195 : Int → (List Int) → Option α) (v184 : Int) (a189 : List Int) : Option α :=
  cond (decide (v184 < ((m182 : Nat) : Int)))
   (
    if a189.length + 1 ≤ 67108864 then
      r195 (IntKind.wrap .i64 (v184 + (1 : Int))) (a189 ++ [(IntKind.wrap .i64 (((m179 : Nat) : Int) + v184))])
    else
      none)
   (
    k194 a189)
def g32l0 {α : Type}   (m178 : Nat) (m179 : Nat) (m180 : Nat) (m181 : Nat) (m182 : Nat) (m183 : Nat) (m185 : Nat) (a186 : List (List Int)) (m187 : Nat) (a188 : List (List Int)) (k194 : (List Int) → Option α) : Nat → Int → (List Int) → Option α
  | 0 => fun _ _ => none
  | m + 1 => fun v184 a189 => g32l0b m178 m179 m180 m181 m182 m183 m185 a186 m187 a188 k194 (g32l0 m178 m179 m180 m181 m182 m183 m185 a186 m187 a188 k194 m) v184 a189
def g32l0M {α : Type} (m : Nat) : Nat → Nat → Nat → Nat → Nat → Nat → Nat → (List (List Int)) → Nat → (List (List Int)) → ((List Int) → Option α) → Int → (List Int) → Option α :=
  fun m178 m179 m180 m181 m182 m183 m185 a186 m187 a188 k194 v184 a189 => g32l0 m178 m179 m180 m181 m182 m183 m185 a186 m187 a188 k194 m v184 a189
def g32l0D : LoopD := { n := 59, low := [0, 1], sl := [0, 1, 6, 7], bl := [0, 1, 1000002], tp := [(.vl (.sv (.slc 0 0 5))), (.vl (.sv (.slc 1 0 5))), (.vl (.sv (.gsl 1000002 1))), (.vl (.sv (.int .i64)))], bp := [(false, [(.seqv (.rc [.i8, .i16, .i16, .i64, .i64]))]), (false, [(.seqv (.rc [.i8, .i16, .i16, .i64, .i64]))]), (true, [(.gro (.int .i64))])], xs := [(2, [0, 1, 6])] }
def g32l0K {α : Type} (L : Nat → Nat → Nat → Nat → Nat → Nat → Nat → (List (List Int)) → Nat → (List (List Int)) → ((List Int) → Option α) → Int → (List Int) → Option α) (ls : List Lf) (k : Ex → St → Option α) : Option α :=
  L (lf ls 0).nat (lf ls 1).nat (lf ls 2).nat (lf ls 3).nat (lf ls 4).nat (lf ls 5).nat (lf ls 7).nat ((lf ls 8).lst (.rc [.i8, .i16, .i16, .i64, .i64])) (lf ls 9).nat ((lf ls 10).lst (.rc [.i8, .i16, .i16, .i64, .i64]))
    (fun y10 => k .normal (mkSt 59 [0, 1, 6] [(.vl (.sv (.slc 0 0 5 (lf ls 0).nat (lf ls 1).nat (lf ls 2).nat))), (.vl (.sv (.slc 1 0 5 (lf ls 3).nat (lf ls 4).nat (lf ls 5).nat))), (.vl (.sv (.gsl 1000002 1)))] [0, 1, 1000002] [(false, [(.seq (.rc [.i8, .i16, .i16, .i64, .i64]) (lf ls 7).nat ((lf ls 8).lst (.rc [.i8, .i16, .i16, .i64, .i64])))]), (false, [(.seq (.rc [.i8, .i16, .i16, .i64, .i64]) (lf ls 9).nat ((lf ls 10).lst (.rc [.i8, .i16, .i16, .i64, .i64])))]), (true, [(.gro (.int .i64) y10)])]))
    (lf ls 6).int ((lf ls 11).lst (.int .i64))
def g32l2b {α : Type} (G_g75 : {α : Type} → Int → Int → Int → Int → Int → (List Int) → (Int → Int → Option α) → Option α)  (m198 : Nat) (m199 : Nat) (m200 : Nat) (m202 : Nat) (a203 : List (List Int)) (m204 : Nat) (a205 : List (List Int)) (a206 : List Int) (k240 : (List (List Int)) → Option α) (r241 : Int → (List (List Int)) → Option α) (v201 : Int) (a207 : List (List Int)) : Option α :=
  cond (decide (v201 < ((m199 : Nat) : Int)))
   (
    if 0 ≤ v201 ∧ v201 < (m199 : Nat) then
      if (m198 + v201.toNat) < m204 then
        let x209 : Int := (List.getD a205 (m198 + v201.toNat) []).headD 0
        let x212 : Int := (List.getD a205 (m198 + v201.toNat) []).tail.tail.tail.headD 0
        let x213 : Int := (List.getD a205 (m198 + v201.toNat) []).tail.tail.tail.tail.headD 0
        G_g75 x209 ((List.getD a205 (m198 + v201.toNat) []).tail.headD 0) ((List.getD a205 (m198 + v201.toNat) []).tail.tail.headD 0) x212 x213 a206
          (fun x236 x237 =>
            if a207.length + 1 ≤ 67108864 then
              r241 (IntKind.wrap .i64 (v201 + (1 : Int))) (a207 ++ [[x209, x236, x237, x212, x213]])
            else
              none)
      else
        none
    else
      none)
   (
    k240 a207)
def g32l2 {α : Type} (G_g75 : {α : Type} → Int → Int → Int → Int → Int → (List Int) → (Int → Int → Option α) → Option α)  (m198 : Nat) (m199 : Nat) (m200 : Nat) (m202 : Nat) (a203 : List (List Int)) (m204 : Nat) (a205 : List (List Int)) (a206 : List Int) (k240 : (List (List Int)) → Option α) : Nat → Int → (List (List Int)) → Option α
  | 0 => fun _ _ => none
  | m + 1 => fun v201 a207 => g32l2b G_g75 m198 m199 m200 m202 a203 m204 a205 a206 k240 (g32l2 G_g75 m198 m199 m200 m202 a203 m204 a205 a206 k240 m) v201 a207
def g32l2M {α : Type} (m : Nat) : Nat → Nat → Nat → Nat → (List (List Int)) → Nat → (List (List Int)) → (List Int) → ((List (List Int)) → Option α) → Int → (List (List Int)) → Option α :=
  fun m198 m199 m200 m202 a203 m204 a205 a206 k240 v201 a207 => g32l2 (g75 m) m198 m199 m200 m202 a203 m204 a205 a206 k240 m v201 a207
def g32l2D : LoopD := { n := 59, low := [0, 1], sl := [1, 6, 8, 9], bl := [0, 1, 1000002, 1000003], tp := [(.vl (.sv (.slc 1 0 5))), (.vl (.sv (.gsl 1000002 1))), (.vl (.sv (.gsl 1000003 5))), (.vl (.sv (.int .i64)))], bp := [(false, [(.seqv (.rc [.i8, .i16, .i16, .i64, .i64]))]), (false, [(.seqv (.rc [.i8, .i16, .i16, .i64, .i64]))]), (true, [(.gro (.int .i64))]), (true, [(.gro (.rc [.i8, .i16, .i16, .i64, .i64]))])], xs := [(4, [8])] }
def g32l2K {α : Type} (L : Nat → Nat → Nat → Nat → (List (List Int)) → Nat → (List (List Int)) → (List Int) → ((List (List Int)) → Option α) → Int → (List (List Int)) → Option α) (ls : List Lf) (k : Ex → St → Option α) : Option α :=
  L (lf ls 0).nat (lf ls 1).nat (lf ls 2).nat (lf ls 4).nat ((lf ls 5).lst (.rc [.i8, .i16, .i16, .i64, .i64])) (lf ls 6).nat ((lf ls 7).lst (.rc [.i8, .i16, .i16, .i64, .i64])) ((lf ls 8).lst (.int .i64))
    (fun y4 => k .normal (mkSt 59 [8] [(.vl (.sv (.gsl 1000002 5)))] [0, 1, 1000002] [(false, [(.seq (.rc [.i8, .i16, .i16, .i64, .i64]) (lf ls 4).nat ((lf ls 5).lst (.rc [.i8, .i16, .i16, .i64, .i64])))]), (false, [(.seq (.rc [.i8, .i16, .i16, .i64, .i64]) (lf ls 6).nat ((lf ls 7).lst (.rc [.i8, .i16, .i16, .i64, .i64])))]), (true, [(.gro (.rc [.i8, .i16, .i16, .i64, .i64]) y4)])]))
    (lf ls 3).int ((lf ls 9).lst (.rc [.i8, .i16, .i16, .i64, .i64]))
def g32b {α : Type} (G_g42 : {α : Type} → Nat → Nat → Nat → Nat → (List (List Int)) → (Bool → Option α) → Option α) (G_g75 : {α : Type} → Int → Int → Int → Int → Int → (List Int) → (Int → Int → Option α) → Option α) (L_g32l0 : {α : Type} → Nat → Nat → Nat → Nat → Nat → Nat → Nat → (List (List Int)) → Nat → (List (List Int)) → ((List Int) → Option α) → Int → (List Int) → Option α) (L_g32l2 : {α : Type} → Nat → Nat → Nat → Nat → (List (List Int)) → Nat → (List (List Int)) → (List Int) → ((List (List Int)) → Option α) → Int → (List (List Int)) → Option α) (m61 : Nat) (m62 : Nat) (m63 : Nat) (m64 : Nat) (m65 : Nat) (m66 : Nat) (m67 : Nat) (u68 : List (List Int)) (m69 : Nat) (u70 : List (List Int)) (k243 : Int → (List (List Int)) → Option α) : Option α :=
  G_g42 m61 m62 m63 m67 u68
    (fun b172 =>
      cond (!b172)
       (
        k243 (1 : Int) [])
       (
        G_g42 m64 m65 m66 m69 u70
          (fun b174 =>
            cond (!b174)
             (
              k243 (1 : Int) [])
             (
              cond (decide ((IntKind.wrap .i64 (((m62 : Nat) : Int) + ((m65 : Nat) : Int))) > (40 : Int)))
               (
                k243 (3 : Int) [])
               (
                L_g32l0 m61 m62 m63 m64 m65 m66 m67 u68 m69 u70
                  (fun l196 =>
                    if m61 + m62 ≤ m67 then
                      let l197 : List (List Int) := List.take m62 (List.drop m61 u68)
                      if 0 + l197.length ≤ 67108864 then
                        L_g32l2 m64 m65 m66 m67 u68 m69 u70 l196
                          (fun l242 =>
                            k243 (0 : Int) l242)
                          (0 : Int) l197
                      else
                        none
                    else
                      none)
                  (0 : Int) [])))))
def g32 {α : Type} (m : Nat) : Nat → Nat → Nat → Nat → Nat → Nat → Nat → (List (List Int)) → Nat → (List (List Int)) → (Int → (List (List Int)) → Option α) → Option α :=
  g32b (g42 m) (g75 m) (g32l0M m) (g32l2M m)
def g32tp : List TP := [(.vl (.sv (.slc 0 0 5))), (.vl (.sv (.slc 1 0 5)))]
def g32bp : List BP := [(false, [(.seqv (.rc [.i8, .i16, .i16, .i64, .i64]))]), (false, [(.seqv (.rc [.i8, .i16, .i16, .i64, .i64]))])]
def g32K {α : Type} (G : Nat → Nat → Nat → Nat → Nat → Nat → Nat → (List (List Int)) → Nat → (List (List Int)) → (Int → (List (List Int)) → Option α) → Option α) (ls : List Lf) (k : TV → List (List Seg) → List (List Seg) → Option α) : Option α :=
  G (lf ls 0).nat (lf ls 1).nat (lf ls 2).nat (lf ls 3).nat (lf ls 4).nat (lf ls 5).nat (lf ls 6).nat ((lf ls 7).lst (.rc [.i8, .i16, .i16, .i64, .i64])) (lf ls 8).nat ((lf ls 9).lst (.rc [.i8, .i16, .i16, .i64, .i64]))
    (fun y0 y5 => k (.tup [(.sv (.gsl 2 5)), (.sv (.int .i64 y0))]) [[(.seq (.rc [.i8, .i16, .i16, .i64, .i64]) (lf ls 6).nat ((lf ls 7).lst (.rc [.i8, .i16, .i16, .i64, .i64])))], [(.seq (.rc [.i8, .i16, .i16, .i64, .i64]) (lf ls 8).nat ((lf ls 9).lst (.rc [.i8, .i16, .i16, .i64, .i64])))]] [[(.gro (.rc [.i8, .i16, .i16, .i64, .i64]) y5)]])
def g32hd (G_g42 : {α : Type} → Nat → Nat → Nat → Nat → (List (List Int)) → (Bool → Option α) → Option α) (G_g75 : {α : Type} → Int → Int → Int → Int → Int → (List Int) → (Int → Int → Option α) → Option α) (L_g32l0 : {α : Type} → Nat → Nat → Nat → Nat → Nat → Nat → Nat → (List (List Int)) → Nat → (List (List Int)) → ((List Int) → Option α) → Int → (List Int) → Option α) (L_g32l2 : {α : Type} → Nat → Nat → Nat → Nat → (List (List Int)) → Nat → (List (List Int)) → (List Int) → ((List (List Int)) → Option α) → Int → (List (List Int)) → Option α) : Hd where
  call := fun f args Bs k => cond (Nat.beq f 42) (rowK g42tp g42bp (g42K G_g42) args Bs k) (cond (Nat.beq f 75) (rowK g75tp g75bp (g75K G_g75) args Bs k) (none))
  loop := fun id st k => cond (Nat.beq id 0) (loopH g32l0D (g32l0K L_g32l0) st k) (cond (Nat.beq id 2) (loopH g32l2D (g32l2K L_g32l2) st k) (none))
  ro := fun f => cond (Nat.beq f 42) [0] (cond (Nat.beq f 75) [0] ([]))
def g32h (m : Nat) : Hd := g32hd (g42 m) (g75 m) (g32l0M m) (g32l2M m)
theorem g32l0Step (G_g42 : {α : Type} → Nat → Nat → Nat → Nat → (List (List Int)) → (Bool → Option α) → Option α) (G_g75 : {α : Type} → Int → Int → Int → Int → Int → (List Int) → (Int → Int → Option α) → Option α) (L_g32l0 : {α : Type} → Nat → Nat → Nat → Nat → Nat → Nat → Nat → (List (List Int)) → Nat → (List (List Int)) → ((List Int) → Option α) → Int → (List Int) → Option α) (L_g32l2 : {α : Type} → Nat → Nat → Nat → Nat → (List (List Int)) → Nat → (List (List Int)) → (List Int) → ((List (List Int)) → Option α) → Int → (List (List Int)) → Option α) {α : Type} (L : Nat → Nat → Nat → Nat → Nat → Nat → Nat → (List (List Int)) → Nat → (List (List Int)) → ((List Int) → Option α) → Int → (List Int) → Option α) (ls : List Lf) (k : Ex → St → Option α) :
    g32l0K (fun m178 m179 m180 m181 m182 m183 m185 a186 m187 a188 k194 v184 a189 => g32l0b m178 m179 m180 m181 m182 m183 m185 a186 m187 a188 k194 (L m178 m179 m180 m181 m182 m183 m185 a186 m187 a188 k194) v184 a189) ls k = ev tab (g32hd G_g42 G_g75 L_g32l0 L_g32l2) (bodyAt Go.Proofs.Try.f32 0) (atHead g32l0D ls) (loopK g32l0D 0 (loopH g32l0D (g32l0K L)) k) := by kernel_rfl
theorem g32l2Step (G_g42 : {α : Type} → Nat → Nat → Nat → Nat → (List (List Int)) → (Bool → Option α) → Option α) (G_g75 : {α : Type} → Int → Int → Int → Int → Int → (List Int) → (Int → Int → Option α) → Option α) (L_g32l0 : {α : Type} → Nat → Nat → Nat → Nat → Nat → Nat → Nat → (List (List Int)) → Nat → (List (List Int)) → ((List Int) → Option α) → Int → (List Int) → Option α) (L_g32l2 : {α : Type} → Nat → Nat → Nat → Nat → (List (List Int)) → Nat → (List (List Int)) → (List Int) → ((List (List Int)) → Option α) → Int → (List (List Int)) → Option α) {α : Type} (L : Nat → Nat → Nat → Nat → (List (List Int)) → Nat → (List (List Int)) → (List Int) → ((List (List Int)) → Option α) → Int → (List (List Int)) → Option α) (ls : List Lf) (k : Ex → St → Option α) :
    g32l2K (fun m198 m199 m200 m202 a203 m204 a205 a206 k240 v201 a207 => g32l2b G_g75 m198 m199 m200 m202 a203 m204 a205 a206 k240 (L m198 m199 m200 m202 a203 m204 a205 a206 k240) v201 a207) ls k = ev tab (g32hd G_g42 G_g75 L_g32l0 L_g32l2) (bodyAt Go.Proofs.Try.f32 2) (atHead g32l2D ls) (loopK g32l2D 2 (loopH g32l2D (g32l2K L)) k) := by kernel_rfl
theorem g32Main (G_g42 : {α : Type} → Nat → Nat → Nat → Nat → (List (List Int)) → (Bool → Option α) → Option α) (G_g75 : {α : Type} → Int → Int → Int → Int → Int → (List Int) → (Int → Int → Option α) → Option α) (L_g32l0 : {α : Type} → Nat → Nat → Nat → Nat → Nat → Nat → Nat → (List (List Int)) → Nat → (List (List Int)) → ((List Int) → Option α) → Int → (List Int) → Option α) (L_g32l2 : {α : Type} → Nat → Nat → Nat → Nat → (List (List Int)) → Nat → (List (List Int)) → (List Int) → ((List (List Int)) → Option α) → Int → (List (List Int)) → Option α) {α : Type} (ls : List Lf) (k : TV → List (List Seg) → List (List Seg) → Option α) :
    g32K (g32b G_g42 G_g75 L_g32l0 L_g32l2) ls k = evFun tab (g32hd G_g42 G_g75 L_g32l0 L_g32l2) Go.Proofs.Try.f32 (fillT g32tp ls).1 (fillB g32bp (fillT g32tp ls).2).1 k := by kernel_rfl
theorem g32Calls (m : Nat) : (g32h m).CallsOk Go.Proofs.Try.prog := (cok_cons (g42Ok m) (cok_cons (g75Ok m) cok_nil))
theorem g32l0Ok (m : Nat) (α : Type) (st : St) (k : Ex → St → Option α) (r : α) (h : (g32h m).loop 0 st k = some r) :
    ∃ e st', k e st' = some r ∧ CodeS Go.Proofs.Try.prog (.block 0 (.loop (bodyAt Go.Proofs.Try.f32 0))) st e st' :=
  loop_ok (tab := tab) (h := g32h m) (F := fun n ls k => g32l0K (fun m178 m179 m180 m181 m182 m183 m185 a186 m187 a188 k194 v184 a189 => g32l0 m178 m179 m180 m181 m182 m183 m185 a186 m187 a188 k194 n v184 a189) ls k) tabOk (g32Calls m) mixed (loopsOk_of _ (fun p hp => by rw [show loopsOf (bodyAt Go.Proofs.Try.f32 0) = [] by kernel_rfl] at hp; cases hp))
    (fun _ _ => rfl) (fun n ls k => g32l0Step (g42 m) (g75 m) (g32l0M m) (g32l2M m) (fun m178 m179 m180 m181 m182 m183 m185 a186 m187 a188 k194 => g32l0 m178 m179 m180 m181 m182 m183 m185 a186 m187 a188 k194 n) ls k) (n := m) h
theorem g32l2Ok (m : Nat) (α : Type) (st : St) (k : Ex → St → Option α) (r : α) (h : (g32h m).loop 2 st k = some r) :
    ∃ e st', k e st' = some r ∧ CodeS Go.Proofs.Try.prog (.block 2 (.loop (bodyAt Go.Proofs.Try.f32 2))) st e st' :=
  loop_ok (tab := tab) (h := g32h m) (F := fun n ls k => g32l2K (fun m198 m199 m200 m202 a203 m204 a205 a206 k240 v201 a207 => g32l2 (g75 m) m198 m199 m200 m202 a203 m204 a205 a206 k240 n v201 a207) ls k) tabOk (g32Calls m) mixed (loopsOk_of _ (fun p hp => by rw [show loopsOf (bodyAt Go.Proofs.Try.f32 2) = [] by kernel_rfl] at hp; cases hp))
    (fun _ _ => rfl) (fun n ls k => g32l2Step (g42 m) (g75 m) (g32l0M m) (g32l2M m) (fun m198 m199 m200 m202 a203 m204 a205 a206 k240 => g32l2 (g75 m) m198 m199 m200 m202 a203 m204 a205 a206 k240 n) ls k) (n := m) h
theorem g32Fn (m : Nat) : FnOk Go.Proofs.Try.prog 32 g32tp g32bp (fun {α} => g32K (g32 (α := α) m)) :=
  fn_ok (tab := tab) (h := g32h m) (fn := Go.Proofs.Try.f32) (F := fun {α} => g32K (g32 (α := α) m)) tabOk (g32Calls m) mixed (by kernel_rfl) (by kernel_rfl) (fun c hc => by
    rw [bodyOf_some hc]
    exact loopsOk_of _ (fun p hp => by
    rw [show loopsOf (bodyOf Go.Proofs.Try.f32) = [(0, bodyAt Go.Proofs.Try.f32 0), (2, bodyAt Go.Proofs.Try.f32 2)] by kernel_rfl] at hp
    simp only [List.mem_cons, List.not_mem_nil, or_false] at hp
    rcases hp with rfl | rfl
    · exact g32l0Ok m
    · exact g32l2Ok m))
    (fun α ls k => g32Main (g42 m) (g75 m) (g32l0M m) (g32l2M m) ls k)
theorem g32Ok (m : Nat) : RowOk Go.Proofs.Try.prog 32 (fun {α} => rowK g32tp g32bp (g32K (g32 (α := α) m))) := row_of (g32Fn m)

/-! ### g43: impl.uses -/
def g43b {α : Type}   (p278 : Int) (k289 : Bool → Bool → Bool → Option α) : Option α :=
  cond (p278 == (1 : Int))
   (
    k289 false false true)
   (
    cond (p278 == (2 : Int))
     (
      k289 true true false)
     (
      cond (p278 == (3 : Int))
       (
        k289 true true false)
       (
        cond (p278 == (4 : Int))
         (
          k289 true true false)
         (
          cond (p278 == (5 : Int))
           (
            k289 true true false)
           (
            cond (p278 == (8 : Int))
             (
              k289 true true false)
             (
              cond (p278 == (9 : Int))
               (
                k289 true true false)
               (
                cond (p278 == (6 : Int))
                 (
                  k289 true false false)
                 (
                  cond (p278 == (7 : Int))
                   (
                    k289 true false false)
                   (
                    cond (p278 == (10 : Int))
                     (
                      k289 true false false)
                     (
                      k289 false false false))))))))))
def g43 {α : Type} (m : Nat) : Int → (Bool → Bool → Bool → Option α) → Option α :=
  g43b
def g43tp : List TP := [(.vl (.sv (.int .i8)))]
def g43bp : List BP := []
def g43K {α : Type} (G : Int → (Bool → Bool → Bool → Option α) → Option α) (ls : List Lf) (k : TV → List (List Seg) → List (List Seg) → Option α) : Option α :=
  G (lf ls 0).int
    (fun y0 y1 y2 => k (.tup [(.sv (.bool y0)), (.sv (.bool y1)), (.sv (.bool y2))]) [] [])
def g43hd   : Hd where
  call := fun f args Bs k => none
  loop := fun id st k => none
  ro := fun f => []
def g43h (m : Nat) : Hd := g43hd
theorem g43Main   {α : Type} (ls : List Lf) (k : TV → List (List Seg) → List (List Seg) → Option α) :
    g43K (g43b) ls k = evFun tab (g43hd) Go.Proofs.Try.f43 (fillT g43tp ls).1 (fillB g43bp (fillT g43tp ls).2).1 k := by kernel_rfl
theorem g43Calls (m : Nat) : (g43h m).CallsOk Go.Proofs.Try.prog := cok_nil
theorem g43Fn (m : Nat) : FnOk Go.Proofs.Try.prog 43 g43tp g43bp (fun {α} => g43K (g43 (α := α) m)) :=
  fn_ok (tab := tab) (h := g43h m) (fn := Go.Proofs.Try.f43) (F := fun {α} => g43K (g43 (α := α) m)) tabOk (g43Calls m) mixed (by kernel_rfl) (by kernel_rfl) (fun c hc => by
    rw [bodyOf_some hc]
    exact loopsOk_of _ (fun p hp => by rw [show loopsOf (bodyOf Go.Proofs.Try.f43) = [] by kernel_rfl] at hp; cases hp))
    (fun α ls k => g43Main ls k)
theorem g43Ok (m : Nat) : RowOk Go.Proofs.Try.prog 43 (fun {α} => rowK g43tp g43bp (g43K (g43 (α := α) m))) := row_of (g43Fn m)

/-! ### g64: impl.within -/
def g64b {α : Type}   (p299 : Int) (p300 : Int) (p301 : Int) (k304 : Bool → Option α) : Option α :=
  cond (decide (p299 ≥ p300))
   (
    k304 (decide (p299 ≤ p301)))
   (
    k304 false)
def g64 {α : Type} (m : Nat) : Int → Int → Int → (Bool → Option α) → Option α :=
  g64b
def g64tp : List TP := [(.vl (.sv (.int .i64))), (.vl (.sv (.int .i64))), (.vl (.sv (.int .i64)))]
def g64bp : List BP := []
def g64K {α : Type} (G : Int → Int → Int → (Bool → Option α) → Option α) (ls : List Lf) (k : TV → List (List Seg) → List (List Seg) → Option α) : Option α :=
  G (lf ls 0).int (lf ls 1).int (lf ls 2).int
    (fun y0 => k (.vl (.sv (.bool y0))) [] [])
def g64hd   : Hd where
  call := fun f args Bs k => none
  loop := fun id st k => none
  ro := fun f => []
def g64h (m : Nat) : Hd := g64hd
theorem g64Main   {α : Type} (ls : List Lf) (k : TV → List (List Seg) → List (List Seg) → Option α) :
    g64K (g64b) ls k = evFun tab (g64hd) Go.Proofs.Try.f64 (fillT g64tp ls).1 (fillB g64bp (fillT g64tp ls).2).1 k := by kernel_rfl
theorem g64Calls (m : Nat) : (g64h m).CallsOk Go.Proofs.Try.prog := cok_nil
theorem g64Fn (m : Nat) : FnOk Go.Proofs.Try.prog 64 g64tp g64bp (fun {α} => g64K (g64 (α := α) m)) :=
  fn_ok (tab := tab) (h := g64h m) (fn := Go.Proofs.Try.f64) (F := fun {α} => g64K (g64 (α := α) m)) tabOk (g64Calls m) mixed (by kernel_rfl) (by kernel_rfl) (fun c hc => by
    rw [bodyOf_some hc]
    exact loopsOk_of _ (fun p hp => by rw [show loopsOf (bodyOf Go.Proofs.Try.f64) = [] by kernel_rfl] at hp; cases hp))
    (fun α ls k => g64Main ls k)
theorem g64Ok (m : Nat) : RowOk Go.Proofs.Try.prog 64 (fun {α} => rowK g64tp g64bp (g64K (g64 (α := α) m))) := row_of (g64Fn m)

/-! ### g44: impl.ratioOk -/
def g44b {α : Type} (G_g64 : {α : Type} → Int → Int → Int → (Bool → Option α) → Option α)  (p295 : Int) (p296 : Int) (p297 : Int) (k309 : Bool → Option α) : Option α :=
  cond (p295 == (1 : Int))
   (
    G_g64 p296 (-1000000000 : Int) (1000000000 : Int)
      (fun b305 =>
        cond b305
         (
          G_g64 p297 (1 : Int) (1000000000 : Int)
            (fun b306 =>
              k309 b306))
         (
          k309 false)))
   (
    cond (p296 == (0 : Int))
     (
      k309 (p297 == (0 : Int)))
     (
      k309 false))
def g44 {α : Type} (m : Nat) : Int → Int → Int → (Bool → Option α) → Option α :=
  g44b (g64 m)
def g44tp : List TP := [(.vl (.sv (.int .i8))), (.vl (.sv (.int .i64))), (.vl (.sv (.int .i64)))]
def g44bp : List BP := []
def g44K {α : Type} (G : Int → Int → Int → (Bool → Option α) → Option α) (ls : List Lf) (k : TV → List (List Seg) → List (List Seg) → Option α) : Option α :=
  G (lf ls 0).int (lf ls 1).int (lf ls 2).int
    (fun y0 => k (.vl (.sv (.bool y0))) [] [])
def g44hd (G_g64 : {α : Type} → Int → Int → Int → (Bool → Option α) → Option α)  : Hd where
  call := fun f args Bs k => cond (Nat.beq f 64) (rowK g64tp g64bp (g64K G_g64) args Bs k) (none)
  loop := fun id st k => none
  ro := fun f => []
def g44h (m : Nat) : Hd := g44hd (g64 m)
theorem g44Main (G_g64 : {α : Type} → Int → Int → Int → (Bool → Option α) → Option α)  {α : Type} (ls : List Lf) (k : TV → List (List Seg) → List (List Seg) → Option α) :
    g44K (g44b G_g64) ls k = evFun tab (g44hd G_g64) Go.Proofs.Try.f44 (fillT g44tp ls).1 (fillB g44bp (fillT g44tp ls).2).1 k := by kernel_rfl
theorem g44Calls (m : Nat) : (g44h m).CallsOk Go.Proofs.Try.prog := (cok_cons (g64Ok m) cok_nil)
theorem g44Fn (m : Nat) : FnOk Go.Proofs.Try.prog 44 g44tp g44bp (fun {α} => g44K (g44 (α := α) m)) :=
  fn_ok (tab := tab) (h := g44h m) (fn := Go.Proofs.Try.f44) (F := fun {α} => g44K (g44 (α := α) m)) tabOk (g44Calls m) mixed (by kernel_rfl) (by kernel_rfl) (fun c hc => by
    rw [bodyOf_some hc]
    exact loopsOk_of _ (fun p hp => by rw [show loopsOf (bodyOf Go.Proofs.Try.f44) = [] by kernel_rfl] at hp; cases hp))
    (fun α ls k => g44Main (g64 m) ls k)
theorem g44Ok (m : Nat) : RowOk Go.Proofs.Try.prog 44 (fun {α} => rowK g44tp g44bp (g44K (g44 (α := α) m))) := row_of (g44Fn m)

/-! ### g45: impl.earlier -/
def g45b {α : Type}   (p312 : Int) (p313 : Int) (q314 : Bool) (k320 : Bool → Option α) : Option α :=
  cond (!q314)
   (
    k320 (p312 == (0 : Int)))
   (
    cond (decide (p312 ≥ (0 : Int)))
     (
      k320 (decide ((IntKind.wrap .i64 p312) < p313)))
     (
      k320 false))
def g45 {α : Type} (m : Nat) : Int → Int → Bool → (Bool → Option α) → Option α :=
  g45b
def g45tp : List TP := [(.vl (.sv (.int .i16))), (.vl (.sv (.int .i64))), (.vl (.sv .bool))]
def g45bp : List BP := []
def g45K {α : Type} (G : Int → Int → Bool → (Bool → Option α) → Option α) (ls : List Lf) (k : TV → List (List Seg) → List (List Seg) → Option α) : Option α :=
  G (lf ls 0).int (lf ls 1).int (lf ls 2).bool
    (fun y0 => k (.vl (.sv (.bool y0))) [] [])
def g45hd   : Hd where
  call := fun f args Bs k => none
  loop := fun id st k => none
  ro := fun f => []
def g45h (m : Nat) : Hd := g45hd
theorem g45Main   {α : Type} (ls : List Lf) (k : TV → List (List Seg) → List (List Seg) → Option α) :
    g45K (g45b) ls k = evFun tab (g45hd) Go.Proofs.Try.f45 (fillT g45tp ls).1 (fillB g45bp (fillT g45tp ls).2).1 k := by kernel_rfl
theorem g45Calls (m : Nat) : (g45h m).CallsOk Go.Proofs.Try.prog := cok_nil
theorem g45Fn (m : Nat) : FnOk Go.Proofs.Try.prog 45 g45tp g45bp (fun {α} => g45K (g45 (α := α) m)) :=
  fn_ok (tab := tab) (h := g45h m) (fn := Go.Proofs.Try.f45) (F := fun {α} => g45K (g45 (α := α) m)) tabOk (g45Calls m) mixed (by kernel_rfl) (by kernel_rfl) (fun c hc => by
    rw [bodyOf_some hc]
    exact loopsOk_of _ (fun p hp => by rw [show loopsOf (bodyOf Go.Proofs.Try.f45) = [] by kernel_rfl] at hp; cases hp))
    (fun α ls k => g45Main ls k)
theorem g45Ok (m : Nat) : RowOk Go.Proofs.Try.prog 45 (fun {α} => rowK g45tp g45bp (g45K (g45 (α := α) m))) := row_of (g45Fn m)

/-! ### g17: impl.ValidTerm -/
def g17l0b {α : Type} (G_g43 : {α : Type} → Int → (Bool → Bool → Bool → Option α) → Option α) (G_g44 : {α : Type} → Int → Int → Int → (Bool → Option α) → Option α) (G_g45 : {α : Type} → Int → Int → Bool → (Bool → Option α) → Option α)  (m265 : Nat) (m266 : Nat) (m267 : Nat) (v268 : Int) (m270 : Nat) (a271 : List (List Int)) (k326 : Option α) (k327 : Option α) (r328 : Int → Option α) (v269 : Int) : Option α :=
  cond (decide (v269 < v268))
   (
    if 0 ≤ v269 ∧ v269 < (m266 : Nat) then
      if (m265 + v269.toNat) < m270 then
        let x273 : Int := (List.getD a271 (m265 + v269.toNat) []).headD 0
        G_g43 x273
          (fun b290 b291 b292 =>
            cond (decide (x273 < (1 : Int)))
             (
              k326)
             (
              cond (decide (x273 > (12 : Int)))
               (
                k326)
               (
                G_g44 x273 ((List.getD a271 (m265 + v269.toNat) []).tail.tail.tail.headD 0) ((List.getD a271 (m265 + v269.toNat) []).tail.tail.tail.tail.headD 0)
                  (fun b310 =>
                    cond (!b310)
                     (
                      k326)
                     (
                      G_g45 ((List.getD a271 (m265 + v269.toNat) []).tail.headD 0) v269 b290
                        (fun b321 =>
                          cond (!b321)
                           (
                            k326)
                           (
                            G_g45 ((List.getD a271 (m265 + v269.toNat) []).tail.tail.headD 0) v269 b291
                              (fun b323 =>
                                cond (!b323)
                                 (
                                  k326)
                                 (
                                  r328 (IntKind.wrap .i64 (v269 + (1 : Int))))))))))))
      else
        none
    else
      none)
   (
    k327)
def g17l0 {α : Type} (G_g43 : {α : Type} → Int → (Bool → Bool → Bool → Option α) → Option α) (G_g44 : {α : Type} → Int → Int → Int → (Bool → Option α) → Option α) (G_g45 : {α : Type} → Int → Int → Bool → (Bool → Option α) → Option α)  (m265 : Nat) (m266 : Nat) (m267 : Nat) (v268 : Int) (m270 : Nat) (a271 : List (List Int)) (k326 : Option α) (k327 : Option α) : Nat → Int → Option α
  | 0 => fun _ => none
  | m + 1 => fun v269 => g17l0b G_g43 G_g44 G_g45 m265 m266 m267 v268 m270 a271 k326 k327 (g17l0 G_g43 G_g44 G_g45 m265 m266 m267 v268 m270 a271 k326 k327 m) v269
def g17l0M {α : Type} (m : Nat) : Nat → Nat → Nat → Int → Nat → (List (List Int)) → (Option α) → (Option α) → Int → Option α :=
  fun m265 m266 m267 v268 m270 a271 k326 k327 v269 => g17l0 (g43 m) (g44 m) (g45 m) m265 m266 m267 v268 m270 a271 k326 k327 m v269
def g17l0D : LoopD := { n := 65, low := [0], sl := [16, 17, 18], bl := [0], tp := [(.vl (.sv (.slc 0 0 5))), (.vl (.sv (.int .i64))), (.vl (.sv (.int .i64)))], bp := [(false, [(.seqv (.rc [.i8, .i16, .i16, .i64, .i64]))])], xs := [(1, [2]), (2, [])] }
def g17l0K {α : Type} (L : Nat → Nat → Nat → Int → Nat → (List (List Int)) → (Option α) → (Option α) → Int → Option α) (ls : List Lf) (k : Ex → St → Option α) : Option α :=
  L (lf ls 0).nat (lf ls 1).nat (lf ls 2).nat (lf ls 3).int (lf ls 5).nat ((lf ls 6).lst (.rc [.i8, .i16, .i16, .i64, .i64]))
    (k .ret (mkSt 65 [2] [(.vl (.sv (.bool false)))] [0] [(false, [(.seq (.rc [.i8, .i16, .i16, .i64, .i64]) (lf ls 5).nat ((lf ls 6).lst (.rc [.i8, .i16, .i16, .i64, .i64])))])]))
    (k .normal (mkSt 65 [] [] [0] [(false, [(.seq (.rc [.i8, .i16, .i16, .i64, .i64]) (lf ls 5).nat ((lf ls 6).lst (.rc [.i8, .i16, .i16, .i64, .i64])))])]))
    (lf ls 4).int
def g17b {α : Type} (G_g43 : {α : Type} → Int → (Bool → Bool → Bool → Option α) → Option α) (G_g44 : {α : Type} → Int → Int → Int → (Bool → Option α) → Option α) (G_g45 : {α : Type} → Int → Int → Bool → (Bool → Option α) → Option α) (L_g17l0 : {α : Type} → Nat → Nat → Nat → Int → Nat → (List (List Int)) → (Option α) → (Option α) → Int → Option α) (m258 : Nat) (m259 : Nat) (m260 : Nat) (m261 : Nat) (u262 : List (List Int)) (k329 : Bool → Option α) : Option α :=
  cond (decide (((m259 : Nat) : Int) < (1 : Int)))
   (
    k329 false)
   (
    cond (decide (((m259 : Nat) : Int) > (40 : Int)))
     (
      k329 false)
     (
      L_g17l0 m258 m259 m260 ((m259 : Nat) : Int) m261 u262
        (
          k329 false)
        (
          k329 true)
        (0 : Int)))
def g17 {α : Type} (m : Nat) : Nat → Nat → Nat → Nat → (List (List Int)) → (Bool → Option α) → Option α :=
  g17b (g43 m) (g44 m) (g45 m) (g17l0M m)
def g17tp : List TP := [(.vl (.sv (.slc 0 0 5)))]
def g17bp : List BP := [(false, [(.seqv (.rc [.i8, .i16, .i16, .i64, .i64]))])]
def g17K {α : Type} (G : Nat → Nat → Nat → Nat → (List (List Int)) → (Bool → Option α) → Option α) (ls : List Lf) (k : TV → List (List Seg) → List (List Seg) → Option α) : Option α :=
  G (lf ls 0).nat (lf ls 1).nat (lf ls 2).nat (lf ls 3).nat ((lf ls 4).lst (.rc [.i8, .i16, .i16, .i64, .i64]))
    (fun y0 => k (.vl (.sv (.bool y0))) [[(.seq (.rc [.i8, .i16, .i16, .i64, .i64]) (lf ls 3).nat ((lf ls 4).lst (.rc [.i8, .i16, .i16, .i64, .i64])))]] [])
def g17hd (G_g43 : {α : Type} → Int → (Bool → Bool → Bool → Option α) → Option α) (G_g44 : {α : Type} → Int → Int → Int → (Bool → Option α) → Option α) (G_g45 : {α : Type} → Int → Int → Bool → (Bool → Option α) → Option α) (L_g17l0 : {α : Type} → Nat → Nat → Nat → Int → Nat → (List (List Int)) → (Option α) → (Option α) → Int → Option α) : Hd where
  call := fun f args Bs k => cond (Nat.beq f 43) (rowK g43tp g43bp (g43K G_g43) args Bs k) (cond (Nat.beq f 44) (rowK g44tp g44bp (g44K G_g44) args Bs k) (cond (Nat.beq f 45) (rowK g45tp g45bp (g45K G_g45) args Bs k) (none)))
  loop := fun id st k => cond (Nat.beq id 0) (loopH g17l0D (g17l0K L_g17l0) st k) (none)
  ro := fun f => []
def g17h (m : Nat) : Hd := g17hd (g43 m) (g44 m) (g45 m) (g17l0M m)
theorem g17l0Step (G_g43 : {α : Type} → Int → (Bool → Bool → Bool → Option α) → Option α) (G_g44 : {α : Type} → Int → Int → Int → (Bool → Option α) → Option α) (G_g45 : {α : Type} → Int → Int → Bool → (Bool → Option α) → Option α) (L_g17l0 : {α : Type} → Nat → Nat → Nat → Int → Nat → (List (List Int)) → (Option α) → (Option α) → Int → Option α) {α : Type} (L : Nat → Nat → Nat → Int → Nat → (List (List Int)) → (Option α) → (Option α) → Int → Option α) (ls : List Lf) (k : Ex → St → Option α) :
    g17l0K (fun m265 m266 m267 v268 m270 a271 k326 k327 v269 => g17l0b G_g43 G_g44 G_g45 m265 m266 m267 v268 m270 a271 k326 k327 (L m265 m266 m267 v268 m270 a271 k326 k327) v269) ls k = ev tab (g17hd G_g43 G_g44 G_g45 L_g17l0) (bodyAt Go.Proofs.Try.f17 0) (atHead g17l0D ls) (loopK g17l0D 0 (loopH g17l0D (g17l0K L)) k) := by kernel_rfl
theorem g17Main (G_g43 : {α : Type} → Int → (Bool → Bool → Bool → Option α) → Option α) (G_g44 : {α : Type} → Int → Int → Int → (Bool → Option α) → Option α) (G_g45 : {α : Type} → Int → Int → Bool → (Bool → Option α) → Option α) (L_g17l0 : {α : Type} → Nat → Nat → Nat → Int → Nat → (List (List Int)) → (Option α) → (Option α) → Int → Option α) {α : Type} (ls : List Lf) (k : TV → List (List Seg) → List (List Seg) → Option α) :
    g17K (g17b G_g43 G_g44 G_g45 L_g17l0) ls k = evFun tab (g17hd G_g43 G_g44 G_g45 L_g17l0) Go.Proofs.Try.f17 (fillT g17tp ls).1 (fillB g17bp (fillT g17tp ls).2).1 k := by kernel_rfl
theorem g17Calls (m : Nat) : (g17h m).CallsOk Go.Proofs.Try.prog := (cok_cons (g43Ok m) (cok_cons (g44Ok m) (cok_cons (g45Ok m) cok_nil)))
theorem g17l0Ok (m : Nat) (α : Type) (st : St) (k : Ex → St → Option α) (r : α) (h : (g17h m).loop 0 st k = some r) :
    ∃ e st', k e st' = some r ∧ CodeS Go.Proofs.Try.prog (.block 0 (.loop (bodyAt Go.Proofs.Try.f17 0))) st e st' :=
  loop_ok (tab := tab) (h := g17h m) (F := fun n ls k => g17l0K (fun m265 m266 m267 v268 m270 a271 k326 k327 v269 => g17l0 (g43 m) (g44 m) (g45 m) m265 m266 m267 v268 m270 a271 k326 k327 n v269) ls k) tabOk (g17Calls m) mixed (loopsOk_of _ (fun p hp => by rw [show loopsOf (bodyAt Go.Proofs.Try.f17 0) = [] by kernel_rfl] at hp; cases hp))
    (fun _ _ => rfl) (fun n ls k => g17l0Step (g43 m) (g44 m) (g45 m) (g17l0M m) (fun m265 m266 m267 v268 m270 a271 k326 k327 => g17l0 (g43 m) (g44 m) (g45 m) m265 m266 m267 v268 m270 a271 k326 k327 n) ls k) (n := m) h
theorem g17Fn (m : Nat) : FnOk Go.Proofs.Try.prog 17 g17tp g17bp (fun {α} => g17K (g17 (α := α) m)) :=
  fn_ok (tab := tab) (h := g17h m) (fn := Go.Proofs.Try.f17) (F := fun {α} => g17K (g17 (α := α) m)) tabOk (g17Calls m) mixed (by kernel_rfl) (by kernel_rfl) (fun c hc => by
    rw [bodyOf_some hc]
    exact loopsOk_of _ (fun p hp => by
    rw [show loopsOf (bodyOf Go.Proofs.Try.f17) = [(0, bodyAt Go.Proofs.Try.f17 0)] by kernel_rfl] at hp
    simp only [List.mem_cons, List.not_mem_nil, or_false] at hp
    rcases hp with rfl
    exact g17l0Ok m))
    (fun α ls k => g17Main (g43 m) (g44 m) (g45 m) (g17l0M m) ls k)
theorem g17Ok (m : Nat) : RowOk Go.Proofs.Try.prog 17 (fun {α} => rowK g17tp g17bp (g17K (g17 (α := α) m))) := row_of (g17Fn m)

/-! ### g76: slices.Clone[[]impl.Node,impl.Node] -/
def g76b {α : Type}   (m336 : Nat) (m337 : Nat) (m338 : Nat) (m339 : Nat) (u340 : List (List Int)) (k342 : (List (List Int)) → Option α) : Option α :=
  if m336 + m337 ≤ m339 then
    let l341 : List (List Int) := List.take m337 (List.drop m336 u340)
    if 0 + l341.length ≤ 67108864 then
      k342 l341
    else
      none
  else
    none
def g76 {α : Type} (m : Nat) : Nat → Nat → Nat → Nat → (List (List Int)) → ((List (List Int)) → Option α) → Option α :=
  g76b
def g76tp : List TP := [(.vl (.sv (.slc 0 0 5)))]
def g76bp : List BP := [(false, [(.seqv (.rc [.i8, .i16, .i16, .i64, .i64]))])]
def g76K {α : Type} (G : Nat → Nat → Nat → Nat → (List (List Int)) → ((List (List Int)) → Option α) → Option α) (ls : List Lf) (k : TV → List (List Seg) → List (List Seg) → Option α) : Option α :=
  G (lf ls 0).nat (lf ls 1).nat (lf ls 2).nat (lf ls 3).nat ((lf ls 4).lst (.rc [.i8, .i16, .i16, .i64, .i64]))
    (fun y2 => k (.vl (.sv (.gsl 1 5))) [[(.seq (.rc [.i8, .i16, .i16, .i64, .i64]) (lf ls 3).nat ((lf ls 4).lst (.rc [.i8, .i16, .i16, .i64, .i64])))]] [[(.gro (.rc [.i8, .i16, .i16, .i64, .i64]) y2)]])
def g76hd   : Hd where
  call := fun f args Bs k => none
  loop := fun id st k => none
  ro := fun f => []
def g76h (m : Nat) : Hd := g76hd
theorem g76Main   {α : Type} (ls : List Lf) (k : TV → List (List Seg) → List (List Seg) → Option α) :
    g76K (g76b) ls k = evFun tab (g76hd) Go.Proofs.Try.f76 (fillT g76tp ls).1 (fillB g76bp (fillT g76tp ls).2).1 k := by kernel_rfl
theorem g76Calls (m : Nat) : (g76h m).CallsOk Go.Proofs.Try.prog := cok_nil
theorem g76Fn (m : Nat) : FnOk Go.Proofs.Try.prog 76 g76tp g76bp (fun {α} => g76K (g76 (α := α) m)) :=
  fn_ok (tab := tab) (h := g76h m) (fn := Go.Proofs.Try.f76) (F := fun {α} => g76K (g76 (α := α) m)) tabOk (g76Calls m) mixed (by kernel_rfl) (by kernel_rfl) (fun c hc => by
    rw [bodyOf_some hc]
    exact loopsOk_of _ (fun p hp => by rw [show loopsOf (bodyOf Go.Proofs.Try.f76) = [] by kernel_rfl] at hp; cases hp))
    (fun α ls k => g76Main ls k)
theorem g76Ok (m : Nat) : RowOk Go.Proofs.Try.prog 76 (fun {α} => rowK g76tp g76bp (g76K (g76 (α := α) m))) := row_of (g76Fn m)

/-! ### g78: impl.JoinTerms$1 -/
def g78b {α : Type}   (p376 : Int) (m377 : Nat) (m378 : Nat) (m379 : Nat) (m380 : Nat) (u381 : List (List Int)) (k384 : Int → Option α) : Option α :=
  k384 (IntKind.wrap .i16 (p376 + (IntKind.wrap .i16 ((m378 : Nat) : Int))))
def g78 {α : Type} (m : Nat) : Int → Nat → Nat → Nat → Nat → (List (List Int)) → (Int → Option α) → Option α :=
  g78b
def g78tp : List TP := [(.vl (.sv (.int .i16))), (.vl (.sv (.ptr 0 0)))]
def g78bp : List BP := [(false, [(.one (.slc 1 0 5))]), (false, [(.seqv (.rc [.i8, .i16, .i16, .i64, .i64]))])]
def g78K {α : Type} (G : Int → Nat → Nat → Nat → Nat → (List (List Int)) → (Int → Option α) → Option α) (ls : List Lf) (k : TV → List (List Seg) → List (List Seg) → Option α) : Option α :=
  G (lf ls 0).int (lf ls 1).nat (lf ls 2).nat (lf ls 3).nat (lf ls 4).nat ((lf ls 5).lst (.rc [.i8, .i16, .i16, .i64, .i64]))
    (fun y0 => k (.vl (.sv (.int .i16 y0))) [[(.one (.slc 1 0 5 (lf ls 1).nat (lf ls 2).nat (lf ls 3).nat))], [(.seq (.rc [.i8, .i16, .i16, .i64, .i64]) (lf ls 4).nat ((lf ls 5).lst (.rc [.i8, .i16, .i16, .i64, .i64])))]] [])
def g78hd   : Hd where
  call := fun f args Bs k => none
  loop := fun id st k => none
  ro := fun f => []
def g78h (m : Nat) : Hd := g78hd
theorem g78Main   {α : Type} (ls : List Lf) (k : TV → List (List Seg) → List (List Seg) → Option α) :
    g78K (g78b) ls k = evFun tab (g78hd) Go.Proofs.Try.f78 (fillT g78tp ls).1 (fillB g78bp (fillT g78tp ls).2).1 k := by kernel_rfl
theorem g78Calls (m : Nat) : (g78h m).CallsOk Go.Proofs.Try.prog := cok_nil
theorem g78Fn (m : Nat) : FnOk Go.Proofs.Try.prog 78 g78tp g78bp (fun {α} => g78K (g78 (α := α) m)) :=
  fn_ok (tab := tab) (h := g78h m) (fn := Go.Proofs.Try.f78) (F := fun {α} => g78K (g78 (α := α) m)) tabOk (g78Calls m) mixed (by kernel_rfl) (by kernel_rfl) (fun c hc => by
    rw [bodyOf_some hc]
    exact loopsOk_of _ (fun p hp => by rw [show loopsOf (bodyOf Go.Proofs.Try.f78) = [] by kernel_rfl] at hp; cases hp))
    (fun α ls k => g78Main ls k)
theorem g78Ok (m : Nat) : RowOk Go.Proofs.Try.prog 78 (fun {α} => rowK g78tp g78bp (g78K (g78 (α := α) m))) := row_of (g78Fn m)

/-! ### g77: impl.moved -/
def g77b {α : Type} (G_g43 : {α : Type} → Int → (Bool → Bool → Bool → Option α) → Option α) (G_g78 : {α : Type} → Int → Nat → Nat → Nat → Nat → (List (List Int)) → (Int → Option α) → Option α)  (p363 : Int) (p364 : Int) (p365 : Int) (p366 : Int) (p367 : Int) (m368 : Nat) (m369 : Nat) (m370 : Nat) (m371 : Nat) (u372 : List (List Int)) (k388 : Int → Int → Option α) : Option α :=
  G_g43 p363
    (fun b373 b374 b375 =>
      cond b373
       (
        G_g78 p364 m368 m369 m370 m371 u372
          (fun x385 =>
            cond b374
             (
              G_g78 p365 m368 m369 m370 m371 u372
                (fun x386 =>
                  k388 x385 x386))
             (
              k388 x385 p365)))
       (
        cond b374
         (
          G_g78 p365 m368 m369 m370 m371 u372
            (fun x387 =>
              k388 p364 x387))
         (
          k388 p364 p365)))
def g77 {α : Type} (m : Nat) : Int → Int → Int → Int → Int → Nat → Nat → Nat → Nat → (List (List Int)) → (Int → Int → Option α) → Option α :=
  g77b (g43 m) (g78 m)
def g77tp : List TP := [(.vl (.agg [(.one (.int .i8)), (.one (.int .i16)), (.one (.int .i16)), (.one (.int .i64)), (.one (.int .i64))])), (.vl (.sv (.clo 78 [(0, 0)])))]
def g77bp : List BP := [(false, [(.one (.slc 1 0 5))]), (false, [(.seqv (.rc [.i8, .i16, .i16, .i64, .i64]))])]
def g77K {α : Type} (G : Int → Int → Int → Int → Int → Nat → Nat → Nat → Nat → (List (List Int)) → (Int → Int → Option α) → Option α) (ls : List Lf) (k : TV → List (List Seg) → List (List Seg) → Option α) : Option α :=
  G (lf ls 0).int (lf ls 1).int (lf ls 2).int (lf ls 3).int (lf ls 4).int (lf ls 5).nat (lf ls 6).nat (lf ls 7).nat (lf ls 8).nat ((lf ls 9).lst (.rc [.i8, .i16, .i16, .i64, .i64]))
    (fun y1 y2 => k (.vl (.agg [(.one (.int .i8 (lf ls 0).int)), (.one (.int .i16 y1)), (.one (.int .i16 y2)), (.one (.int .i64 (lf ls 3).int)), (.one (.int .i64 (lf ls 4).int))])) [[(.one (.slc 1 0 5 (lf ls 5).nat (lf ls 6).nat (lf ls 7).nat))], [(.seq (.rc [.i8, .i16, .i16, .i64, .i64]) (lf ls 8).nat ((lf ls 9).lst (.rc [.i8, .i16, .i16, .i64, .i64])))]] [])
def g77hd (G_g43 : {α : Type} → Int → (Bool → Bool → Bool → Option α) → Option α) (G_g78 : {α : Type} → Int → Nat → Nat → Nat → Nat → (List (List Int)) → (Int → Option α) → Option α)  : Hd where
  call := fun f args Bs k => cond (Nat.beq f 43) (rowK g43tp g43bp (g43K G_g43) args Bs k) (cond (Nat.beq f 78) (rowK g78tp g78bp (g78K G_g78) args Bs k) (none))
  loop := fun id st k => none
  ro := fun f => cond (Nat.beq f 78) [0, 1] ([])
def g77h (m : Nat) : Hd := g77hd (g43 m) (g78 m)
theorem g77Main (G_g43 : {α : Type} → Int → (Bool → Bool → Bool → Option α) → Option α) (G_g78 : {α : Type} → Int → Nat → Nat → Nat → Nat → (List (List Int)) → (Int → Option α) → Option α)  {α : Type} (ls : List Lf) (k : TV → List (List Seg) → List (List Seg) → Option α) :
    g77K (g77b G_g43 G_g78) ls k = evFun tab (g77hd G_g43 G_g78) Go.Proofs.Try.f77 (fillT g77tp ls).1 (fillB g77bp (fillT g77tp ls).2).1 k := by kernel_rfl
theorem g77Calls (m : Nat) : (g77h m).CallsOk Go.Proofs.Try.prog := (cok_cons (g43Ok m) (cok_cons (g78Ok m) cok_nil))
theorem g77Fn (m : Nat) : FnOk Go.Proofs.Try.prog 77 g77tp g77bp (fun {α} => g77K (g77 (α := α) m)) :=
  fn_ok (tab := tab) (h := g77h m) (fn := Go.Proofs.Try.f77) (F := fun {α} => g77K (g77 (α := α) m)) tabOk (g77Calls m) mixed (by kernel_rfl) (by kernel_rfl) (fun c hc => by
    rw [bodyOf_some hc]
    exact loopsOk_of _ (fun p hp => by rw [show loopsOf (bodyOf Go.Proofs.Try.f77) = [] by kernel_rfl] at hp; cases hp))
    (fun α ls k => g77Main (g43 m) (g78 m) ls k)
theorem g77Ok (m : Nat) : RowOk Go.Proofs.Try.prog 77 (fun {α} => rowK g77tp g77bp (g77K (g77 (α := α) m))) := row_of (g77Fn m)

/-! ### g33: impl.JoinTerms -/
def g33l0b {α : Type} (G_g77 : {α : Type} → Int → Int → Int → Int → Int → Nat → Nat → Nat → Nat → (List (List Int)) → (Int → Int → Option α) → Option α)  (m344 : Nat) (m345 : Nat) (m346 : Nat) (v347 : Int) (m349 : Nat) (a350 : List (List Int)) (m351 : Nat) (a352 : List (List Int)) (m353 : Nat) (m354 : Nat) (m355 : Nat) (k393 : (List (List Int)) → Option α) (r394 : Int → (List (List Int)) → Option α) (v348 : Int) (a356 : List (List Int)) : Option α :=
  cond (decide (v348 < v347))
   (
    if 0 ≤ v348 ∧ v348 < (m345 : Nat) then
      if (m344 + v348.toNat) < m351 then
        let x358 : Int := (List.getD a352 (m344 + v348.toNat) []).headD 0
        let x361 : Int := (List.getD a352 (m344 + v348.toNat) []).tail.tail.tail.headD 0
        let x362 : Int := (List.getD a352 (m344 + v348.toNat) []).tail.tail.tail.tail.headD 0
        G_g77 x358 ((List.getD a352 (m344 + v348.toNat) []).tail.headD 0) ((List.getD a352 (m344 + v348.toNat) []).tail.tail.headD 0) x361 x362 m353 m354 m355 m349 a350
          (fun x389 x390 =>
            if a356.length + 1 ≤ 67108864 then
              r394 (IntKind.wrap .i64 (v348 + (1 : Int))) (a356 ++ [[x358, x389, x390, x361, x362]])
            else
              none)
      else
        none
    else
      none)
   (
    k393 a356)
def g33l0 {α : Type} (G_g77 : {α : Type} → Int → Int → Int → Int → Int → Nat → Nat → Nat → Nat → (List (List Int)) → (Int → Int → Option α) → Option α)  (m344 : Nat) (m345 : Nat) (m346 : Nat) (v347 : Int) (m349 : Nat) (a350 : List (List Int)) (m351 : Nat) (a352 : List (List Int)) (m353 : Nat) (m354 : Nat) (m355 : Nat) (k393 : (List (List Int)) → Option α) : Nat → Int → (List (List Int)) → Option α
  | 0 => fun _ _ => none
  | m + 1 => fun v348 a356 => g33l0b G_g77 m344 m345 m346 v347 m349 a350 m351 a352 m353 m354 m355 k393 (g33l0 G_g77 m344 m345 m346 v347 m349 a350 m351 a352 m353 m354 m355 k393 m) v348 a356
def g33l0M {α : Type} (m : Nat) : Nat → Nat → Nat → Int → Nat → (List (List Int)) → Nat → (List (List Int)) → Nat → Nat → Nat → ((List (List Int)) → Option α) → Int → (List (List Int)) → Option α :=
  fun m344 m345 m346 v347 m349 a350 m351 a352 m353 m354 m355 k393 v348 a356 => g33l0 (g77 m) m344 m345 m346 v347 m349 a350 m351 a352 m353 m354 m355 k393 m v348 a356
def g33l0D : LoopD := { n := 39, low := [0, 1], sl := [2, 6, 25, 26, 27], bl := [0, 1, 1000002, 1000003], tp := [(.vl (.sv (.ptr 1000002 0))), (.vl (.sv (.gsl 1000003 5))), (.vl (.sv (.slc 1 0 5))), (.vl (.sv (.int .i64))), (.vl (.sv (.int .i64)))], bp := [(false, [(.seqv (.rc [.i8, .i16, .i16, .i64, .i64]))]), (false, [(.seqv (.rc [.i8, .i16, .i16, .i64, .i64]))]), (true, [(.one (.slc 0 0 5))]), (true, [(.gro (.rc [.i8, .i16, .i16, .i64, .i64]))])], xs := [(2, [6])] }
def g33l0K {α : Type} (L : Nat → Nat → Nat → Int → Nat → (List (List Int)) → Nat → (List (List Int)) → Nat → Nat → Nat → ((List (List Int)) → Option α) → Int → (List (List Int)) → Option α) (ls : List Lf) (k : Ex → St → Option α) : Option α :=
  L (lf ls 0).nat (lf ls 1).nat (lf ls 2).nat (lf ls 3).int (lf ls 5).nat ((lf ls 6).lst (.rc [.i8, .i16, .i16, .i64, .i64])) (lf ls 7).nat ((lf ls 8).lst (.rc [.i8, .i16, .i16, .i64, .i64])) (lf ls 9).nat (lf ls 10).nat (lf ls 11).nat
    (fun y4 => k .normal (mkSt 39 [6] [(.vl (.sv (.gsl 1000002 5)))] [0, 1, 1000002] [(false, [(.seq (.rc [.i8, .i16, .i16, .i64, .i64]) (lf ls 5).nat ((lf ls 6).lst (.rc [.i8, .i16, .i16, .i64, .i64])))]), (false, [(.seq (.rc [.i8, .i16, .i16, .i64, .i64]) (lf ls 7).nat ((lf ls 8).lst (.rc [.i8, .i16, .i16, .i64, .i64])))]), (true, [(.gro (.rc [.i8, .i16, .i16, .i64, .i64]) y4)])]))
    (lf ls 4).int ((lf ls 12).lst (.rc [.i8, .i16, .i16, .i64, .i64]))
def g33b {α : Type} (G_g17 : {α : Type} → Nat → Nat → Nat → Nat → (List (List Int)) → (Bool → Option α) → Option α) (G_g76 : {α : Type} → Nat → Nat → Nat → Nat → (List (List Int)) → ((List (List Int)) → Option α) → Option α) (G_g77 : {α : Type} → Int → Int → Int → Int → Int → Nat → Nat → Nat → Nat → (List (List Int)) → (Int → Int → Option α) → Option α) (L_g33l0 : {α : Type} → Nat → Nat → Nat → Int → Nat → (List (List Int)) → Nat → (List (List Int)) → Nat → Nat → Nat → ((List (List Int)) → Option α) → Int → (List (List Int)) → Option α) (m248 : Nat) (m249 : Nat) (m250 : Nat) (m251 : Nat) (m252 : Nat) (m253 : Nat) (m254 : Nat) (u255 : List (List Int)) (m256 : Nat) (u257 : List (List Int)) (k396 : Int → Option α) (k397 : (List (List Int)) → Option α) : Option α :=
  G_g17 m248 m249 m250 m254 u255
    (fun b330 =>
      cond (!b330)
       (
        k396 (1 : Int))
       (
        G_g17 m251 m252 m253 m256 u257
          (fun b332 =>
            cond (!b332)
             (
              k396 (1 : Int))
             (
              cond (decide ((IntKind.wrap .i64 (((m249 : Nat) : Int) + ((m252 : Nat) : Int))) > (40 : Int)))
               (
                k396 (3 : Int))
               (
                G_g76 m248 m249 m250 m254 u255
                  (fun l343 =>
                    L_g33l0 m251 m252 m253 ((m252 : Nat) : Int) m254 u255 m256 u257 m248 m249 m250
                      (fun l395 =>
                        k397 l395)
                      (0 : Int) l343))))))
def g33 {α : Type} (m : Nat) : Nat → Nat → Nat → Nat → Nat → Nat → Nat → (List (List Int)) → Nat → (List (List Int)) → (Int → Option α) → ((List (List Int)) → Option α) → Option α :=
  g33b (g17 m) (g76 m) (g77 m) (g33l0M m)
def g33tp : List TP := [(.vl (.sv (.slc 0 0 5))), (.vl (.sv (.slc 1 0 5)))]
def g33bp : List BP := [(false, [(.seqv (.rc [.i8, .i16, .i16, .i64, .i64]))]), (false, [(.seqv (.rc [.i8, .i16, .i16, .i64, .i64]))])]
def g33K {α : Type} (G : Nat → Nat → Nat → Nat → Nat → Nat → Nat → (List (List Int)) → Nat → (List (List Int)) → (Int → Option α) → ((List (List Int)) → Option α) → Option α) (ls : List Lf) (k : TV → List (List Seg) → List (List Seg) → Option α) : Option α :=
  G (lf ls 0).nat (lf ls 1).nat (lf ls 2).nat (lf ls 3).nat (lf ls 4).nat (lf ls 5).nat (lf ls 6).nat ((lf ls 7).lst (.rc [.i8, .i16, .i16, .i64, .i64])) (lf ls 8).nat ((lf ls 9).lst (.rc [.i8, .i16, .i16, .i64, .i64]))
    (fun y0 => k (.tup [(.sv .nils), (.sv (.int .i64 y0))]) [[(.seq (.rc [.i8, .i16, .i16, .i64, .i64]) (lf ls 6).nat ((lf ls 7).lst (.rc [.i8, .i16, .i16, .i64, .i64])))], [(.seq (.rc [.i8, .i16, .i16, .i64, .i64]) (lf ls 8).nat ((lf ls 9).lst (.rc [.i8, .i16, .i16, .i64, .i64])))]] [])
    (fun y5 => k (.tup [(.sv (.gsl 2 5)), (.sv (.int .i64 (0 : Int)))]) [[(.seq (.rc [.i8, .i16, .i16, .i64, .i64]) (lf ls 6).nat ((lf ls 7).lst (.rc [.i8, .i16, .i16, .i64, .i64])))], [(.seq (.rc [.i8, .i16, .i16, .i64, .i64]) (lf ls 8).nat ((lf ls 9).lst (.rc [.i8, .i16, .i16, .i64, .i64])))]] [[(.gro (.rc [.i8, .i16, .i16, .i64, .i64]) y5)]])
def g33hd (G_g17 : {α : Type} → Nat → Nat → Nat → Nat → (List (List Int)) → (Bool → Option α) → Option α) (G_g76 : {α : Type} → Nat → Nat → Nat → Nat → (List (List Int)) → ((List (List Int)) → Option α) → Option α) (G_g77 : {α : Type} → Int → Int → Int → Int → Int → Nat → Nat → Nat → Nat → (List (List Int)) → (Int → Int → Option α) → Option α) (L_g33l0 : {α : Type} → Nat → Nat → Nat → Int → Nat → (List (List Int)) → Nat → (List (List Int)) → Nat → Nat → Nat → ((List (List Int)) → Option α) → Int → (List (List Int)) → Option α) : Hd where
  call := fun f args Bs k => cond (Nat.beq f 17) (rowK g17tp g17bp (g17K G_g17) args Bs k) (cond (Nat.beq f 76) (rowK g76tp g76bp (g76K G_g76) args Bs k) (cond (Nat.beq f 77) (rowK g77tp g77bp (g77K G_g77) args Bs k) (none)))
  loop := fun id st k => cond (Nat.beq id 0) (loopH g33l0D (g33l0K L_g33l0) st k) (none)
  ro := fun f => cond (Nat.beq f 17) [0] (cond (Nat.beq f 76) [0] (cond (Nat.beq f 77) [0, 1] ([])))
def g33h (m : Nat) : Hd := g33hd (g17 m) (g76 m) (g77 m) (g33l0M m)
theorem g33l0Step (G_g17 : {α : Type} → Nat → Nat → Nat → Nat → (List (List Int)) → (Bool → Option α) → Option α) (G_g76 : {α : Type} → Nat → Nat → Nat → Nat → (List (List Int)) → ((List (List Int)) → Option α) → Option α) (G_g77 : {α : Type} → Int → Int → Int → Int → Int → Nat → Nat → Nat → Nat → (List (List Int)) → (Int → Int → Option α) → Option α) (L_g33l0 : {α : Type} → Nat → Nat → Nat → Int → Nat → (List (List Int)) → Nat → (List (List Int)) → Nat → Nat → Nat → ((List (List Int)) → Option α) → Int → (List (List Int)) → Option α) {α : Type} (L : Nat → Nat → Nat → Int → Nat → (List (List Int)) → Nat → (List (List Int)) → Nat → Nat → Nat → ((List (List Int)) → Option α) → Int → (List (List Int)) → Option α) (ls : List Lf) (k : Ex → St → Option α) :
    g33l0K (fun m344 m345 m346 v347 m349 a350 m351 a352 m353 m354 m355 k393 v348 a356 => g33l0b G_g77 m344 m345 m346 v347 m349 a350 m351 a352 m353 m354 m355 k393 (L m344 m345 m346 v347 m349 a350 m351 a352 m353 m354 m355 k393) v348 a356) ls k = ev tab (g33hd G_g17 G_g76 G_g77 L_g33l0) (bodyAt Go.Proofs.Try.f33 0) (atHead g33l0D ls) (loopK g33l0D 0 (loopH g33l0D (g33l0K L)) k) := by kernel_rfl
theorem g33Main (G_g17 : {α : Type} → Nat → Nat → Nat → Nat → (List (List Int)) → (Bool → Option α) → Option α) (G_g76 : {α : Type} → Nat → Nat → Nat → Nat → (List (List Int)) → ((List (List Int)) → Option α) → Option α) (G_g77 : {α : Type} → Int → Int → Int → Int → Int → Nat → Nat → Nat → Nat → (List (List Int)) → (Int → Int → Option α) → Option α) (L_g33l0 : {α : Type} → Nat → Nat → Nat → Int → Nat → (List (List Int)) → Nat → (List (List Int)) → Nat → Nat → Nat → ((List (List Int)) → Option α) → Int → (List (List Int)) → Option α) {α : Type} (ls : List Lf) (k : TV → List (List Seg) → List (List Seg) → Option α) :
    g33K (g33b G_g17 G_g76 G_g77 L_g33l0) ls k = evFun tab (g33hd G_g17 G_g76 G_g77 L_g33l0) Go.Proofs.Try.f33 (fillT g33tp ls).1 (fillB g33bp (fillT g33tp ls).2).1 k := by kernel_rfl
theorem g33Calls (m : Nat) : (g33h m).CallsOk Go.Proofs.Try.prog := (cok_cons (g17Ok m) (cok_cons (g76Ok m) (cok_cons (g77Ok m) cok_nil)))
theorem g33l0Ok (m : Nat) (α : Type) (st : St) (k : Ex → St → Option α) (r : α) (h : (g33h m).loop 0 st k = some r) :
    ∃ e st', k e st' = some r ∧ CodeS Go.Proofs.Try.prog (.block 0 (.loop (bodyAt Go.Proofs.Try.f33 0))) st e st' :=
  loop_ok (tab := tab) (h := g33h m) (F := fun n ls k => g33l0K (fun m344 m345 m346 v347 m349 a350 m351 a352 m353 m354 m355 k393 v348 a356 => g33l0 (g77 m) m344 m345 m346 v347 m349 a350 m351 a352 m353 m354 m355 k393 n v348 a356) ls k) tabOk (g33Calls m) mixed (loopsOk_of _ (fun p hp => by rw [show loopsOf (bodyAt Go.Proofs.Try.f33 0) = [] by kernel_rfl] at hp; cases hp))
    (fun _ _ => rfl) (fun n ls k => g33l0Step (g17 m) (g76 m) (g77 m) (g33l0M m) (fun m344 m345 m346 v347 m349 a350 m351 a352 m353 m354 m355 k393 => g33l0 (g77 m) m344 m345 m346 v347 m349 a350 m351 a352 m353 m354 m355 k393 n) ls k) (n := m) h
theorem g33Fn (m : Nat) : FnOk Go.Proofs.Try.prog 33 g33tp g33bp (fun {α} => g33K (g33 (α := α) m)) :=
  fn_ok (tab := tab) (h := g33h m) (fn := Go.Proofs.Try.f33) (F := fun {α} => g33K (g33 (α := α) m)) tabOk (g33Calls m) mixed (by kernel_rfl) (by kernel_rfl) (fun c hc => by
    rw [bodyOf_some hc]
    exact loopsOk_of _ (fun p hp => by
    rw [show loopsOf (bodyOf Go.Proofs.Try.f33) = [(0, bodyAt Go.Proofs.Try.f33 0)] by kernel_rfl] at hp
    simp only [List.mem_cons, List.not_mem_nil, or_false] at hp
    rcases hp with rfl
    exact g33l0Ok m))
    (fun α ls k => g33Main (g17 m) (g76 m) (g77 m) (g33l0M m) ls k)
theorem g33Ok (m : Nat) : RowOk Go.Proofs.Try.prog 33 (fun {α} => rowK g33tp g33bp (g33K (g33 (α := α) m))) := row_of (g33Fn m)

/-! ### g15: laws.eqNodeS -/
def g15l0b {α : Type}   (v401 : Int) (a402 : List (List Int)) (k404 : Option α) (r405 : Option α)  : Option α :=
  cond (decide (v401 < (0 : Int)))
   (
    none)
   (
    k404)
def g15l0 {α : Type}   (v401 : Int) (a402 : List (List Int)) (k404 : Option α) : Nat → Option α
  | 0 => none
  | m + 1 => g15l0b v401 a402 k404 (g15l0 v401 a402 k404 m)
def g15l0M {α : Type} (m : Nat) : Int → (List (List Int)) → (Option α) → Option α :=
  fun v401 a402 k404  => g15l0 v401 a402 k404 m 
def g15l0D : LoopD := { n := 27, low := [0], sl := [0, 1, 5], bl := [0], tp := [(.vl (.sv .nils)), (.vl (.sv (.gsl 0 5))), (.vl (.sv (.int .i64)))], bp := [(false, [(.gro (.rc [.i8, .i16, .i16, .i64, .i64]))])], xs := [(2, [])] }
def g15l0K {α : Type} (L : Int → (List (List Int)) → (Option α) → Option α) (ls : List Lf) (k : Ex → St → Option α) : Option α :=
  L (lf ls 0).int ((lf ls 1).lst (.rc [.i8, .i16, .i16, .i64, .i64]))
    (k .normal (mkSt 27 [] [] [0] [(false, [(.gro (.rc [.i8, .i16, .i16, .i64, .i64]) ((lf ls 1).lst (.rc [.i8, .i16, .i16, .i64, .i64])))])]))
    
def g15b {α : Type}  (L_g15l0 : {α : Type} → Int → (List (List Int)) → (Option α) → Option α) (u399 : List (List Int)) (k406 : Bool → Option α) : Option α :=
  cond ((0 : Int) != ((u399.length : Nat) : Int))
   (
    k406 false)
   (
    L_g15l0 (0 : Int) u399
      (
        k406 true))
def g15 {α : Type} (m : Nat) : (List (List Int)) → (Bool → Option α) → Option α :=
  g15b (g15l0M m)
def g15tp : List TP := [(.vl (.sv .nils)), (.vl (.sv (.gsl 0 5)))]
def g15bp : List BP := [(false, [(.gro (.rc [.i8, .i16, .i16, .i64, .i64]))])]
def g15K {α : Type} (G : (List (List Int)) → (Bool → Option α) → Option α) (ls : List Lf) (k : TV → List (List Seg) → List (List Seg) → Option α) : Option α :=
  G ((lf ls 0).lst (.rc [.i8, .i16, .i16, .i64, .i64]))
    (fun y0 => k (.vl (.sv (.bool y0))) [[(.gro (.rc [.i8, .i16, .i16, .i64, .i64]) ((lf ls 0).lst (.rc [.i8, .i16, .i16, .i64, .i64])))]] [])
def g15hd  (L_g15l0 : {α : Type} → Int → (List (List Int)) → (Option α) → Option α) : Hd where
  call := fun f args Bs k => none
  loop := fun id st k => cond (Nat.beq id 0) (loopH g15l0D (g15l0K L_g15l0) st k) (none)
  ro := fun f => []
def g15h (m : Nat) : Hd := g15hd (g15l0M m)
theorem g15l0Step  (L_g15l0 : {α : Type} → Int → (List (List Int)) → (Option α) → Option α) {α : Type} (L : Int → (List (List Int)) → (Option α) → Option α) (ls : List Lf) (k : Ex → St → Option α) :
    g15l0K (fun v401 a402 k404 => g15l0b v401 a402 k404 (L v401 a402 k404) ) ls k = ev tab (g15hd L_g15l0) (bodyAt Go.Proofs.Try.f15 0) (atHead g15l0D ls) (loopK g15l0D 0 (loopH g15l0D (g15l0K L)) k) := by kernel_rfl
theorem g15Main  (L_g15l0 : {α : Type} → Int → (List (List Int)) → (Option α) → Option α) {α : Type} (ls : List Lf) (k : TV → List (List Seg) → List (List Seg) → Option α) :
    g15K (g15b L_g15l0) ls k = evFun tab (g15hd L_g15l0) Go.Proofs.Try.f15 (fillT g15tp ls).1 (fillB g15bp (fillT g15tp ls).2).1 k := by kernel_rfl
theorem g15Calls (m : Nat) : (g15h m).CallsOk Go.Proofs.Try.prog := cok_nil
theorem g15l0Ok (m : Nat) (α : Type) (st : St) (k : Ex → St → Option α) (r : α) (h : (g15h m).loop 0 st k = some r) :
    ∃ e st', k e st' = some r ∧ CodeS Go.Proofs.Try.prog (.block 0 (.loop (bodyAt Go.Proofs.Try.f15 0))) st e st' :=
  loop_ok (tab := tab) (h := g15h m) (F := fun n ls k => g15l0K (fun v401 a402 k404 => g15l0 v401 a402 k404 n ) ls k) tabOk (g15Calls m) mixed (loopsOk_of _ (fun p hp => by rw [show loopsOf (bodyAt Go.Proofs.Try.f15 0) = [] by kernel_rfl] at hp; cases hp))
    (fun _ _ => rfl) (fun n ls k => g15l0Step (g15l0M m) (fun v401 a402 k404 => g15l0 v401 a402 k404 n) ls k) (n := m) h
theorem g15Fn (m : Nat) : FnOk Go.Proofs.Try.prog 15 g15tp g15bp (fun {α} => g15K (g15 (α := α) m)) :=
  fn_ok (tab := tab) (h := g15h m) (fn := Go.Proofs.Try.f15) (F := fun {α} => g15K (g15 (α := α) m)) tabOk (g15Calls m) mixed (by kernel_rfl) (by kernel_rfl) (fun c hc => by
    rw [bodyOf_some hc]
    exact loopsOk_of _ (fun p hp => by
    rw [show loopsOf (bodyOf Go.Proofs.Try.f15) = [(0, bodyAt Go.Proofs.Try.f15 0)] by kernel_rfl] at hp
    simp only [List.mem_cons, List.not_mem_nil, or_false] at hp
    rcases hp with rfl
    exact g15l0Ok m))
    (fun α ls k => g15Main (g15l0M m) ls k)
theorem g15Ok (m : Nat) : RowOk Go.Proofs.Try.prog 15 (fun {α} => rowK g15tp g15bp (g15K (g15 (α := α) m))) := row_of (g15Fn m)

/-! ### g41: laws.eqNode -/
def g41b {α : Type}   (p444 : Int) (p445 : Int) (p446 : Int) (p447 : Int) (p448 : Int) (p449 : Int) (p450 : Int) (p451 : Int) (p452 : Int) (p453 : Int) (k459 : Bool → Option α) : Option α :=
  cond (p444 != p449)
   (
    k459 false)
   (
    cond (p445 != p450)
     (
      k459 false)
     (
      cond (p446 != p451)
       (
        k459 false)
       (
        cond (p447 != p452)
         (
          k459 false)
         (
          cond (p448 != p453)
           (
            k459 false)
           (
            k459 true)))))
def g41 {α : Type} (m : Nat) : Int → Int → Int → Int → Int → Int → Int → Int → Int → Int → (Bool → Option α) → Option α :=
  g41b
def g41tp : List TP := [(.vl (.agg [(.one (.int .i8)), (.one (.int .i16)), (.one (.int .i16)), (.one (.int .i64)), (.one (.int .i64))])), (.vl (.agg [(.one (.int .i8)), (.one (.int .i16)), (.one (.int .i16)), (.one (.int .i64)), (.one (.int .i64))]))]
def g41bp : List BP := []
def g41K {α : Type} (G : Int → Int → Int → Int → Int → Int → Int → Int → Int → Int → (Bool → Option α) → Option α) (ls : List Lf) (k : TV → List (List Seg) → List (List Seg) → Option α) : Option α :=
  G (lf ls 0).int (lf ls 1).int (lf ls 2).int (lf ls 3).int (lf ls 4).int (lf ls 5).int (lf ls 6).int (lf ls 7).int (lf ls 8).int (lf ls 9).int
    (fun y0 => k (.vl (.sv (.bool y0))) [] [])
def g41hd   : Hd where
  call := fun f args Bs k => none
  loop := fun id st k => none
  ro := fun f => []
def g41h (m : Nat) : Hd := g41hd
theorem g41Main   {α : Type} (ls : List Lf) (k : TV → List (List Seg) → List (List Seg) → Option α) :
    g41K (g41b) ls k = evFun tab (g41hd) Go.Proofs.Try.f41 (fillT g41tp ls).1 (fillB g41bp (fillT g41tp ls).2).1 k := by kernel_rfl
theorem g41Calls (m : Nat) : (g41h m).CallsOk Go.Proofs.Try.prog := cok_nil
theorem g41Fn (m : Nat) : FnOk Go.Proofs.Try.prog 41 g41tp g41bp (fun {α} => g41K (g41 (α := α) m)) :=
  fn_ok (tab := tab) (h := g41h m) (fn := Go.Proofs.Try.f41) (F := fun {α} => g41K (g41 (α := α) m)) tabOk (g41Calls m) mixed (by kernel_rfl) (by kernel_rfl) (fun c hc => by
    rw [bodyOf_some hc]
    exact loopsOk_of _ (fun p hp => by rw [show loopsOf (bodyOf Go.Proofs.Try.f41) = [] by kernel_rfl] at hp; cases hp))
    (fun α ls k => g41Main ls k)
theorem g41Ok (m : Nat) : RowOk Go.Proofs.Try.prog 41 (fun {α} => rowK g41tp g41bp (g41K (g41 (α := α) m))) := row_of (g41Fn m)

/-! ### g15v1: laws.eqNodeS -/
def g15v1l0b {α : Type} (G_g41 : {α : Type} → Int → Int → Int → Int → Int → Int → Int → Int → Int → Int → (Bool → Option α) → Option α)  (m422 : Nat) (m423 : Nat) (m424 : Nat) (m425 : Nat) (m426 : Nat) (m427 : Nat) (m429 : Nat) (a430 : List (List Int)) (m431 : Nat) (a432 : List (List Int)) (k463 : Option α) (k464 : Option α) (r465 : Int → Option α) (v428 : Int) : Option α :=
  cond (decide (v428 < ((m423 : Nat) : Int)))
   (
    if 0 ≤ v428 ∧ v428 < (m423 : Nat) then
      if (m422 + v428.toNat) < m429 then
        if 0 ≤ v428 ∧ v428 < (m426 : Nat) then
          if (m425 + v428.toNat) < m431 then
            G_g41 ((List.getD a430 (m422 + v428.toNat) []).headD 0) ((List.getD a430 (m422 + v428.toNat) []).tail.headD 0) ((List.getD a430 (m422 + v428.toNat) []).tail.tail.headD 0) ((List.getD a430 (m422 + v428.toNat) []).tail.tail.tail.headD 0) ((List.getD a430 (m422 + v428.toNat) []).tail.tail.tail.tail.headD 0) ((List.getD a432 (m425 + v428.toNat) []).headD 0) ((List.getD a432 (m425 + v428.toNat) []).tail.headD 0) ((List.getD a432 (m425 + v428.toNat) []).tail.tail.headD 0) ((List.getD a432 (m425 + v428.toNat) []).tail.tail.tail.headD 0) ((List.getD a432 (m425 + v428.toNat) []).tail.tail.tail.tail.headD 0)
              (fun b460 =>
                cond (!b460)
                 (
                  k463)
                 (
                  r465 (IntKind.wrap .i64 (v428 + (1 : Int)))))
          else
            none
        else
          none
      else
        none
    else
      none)
   (
    k464)
def g15v1l0 {α : Type} (G_g41 : {α : Type} → Int → Int → Int → Int → Int → Int → Int → Int → Int → Int → (Bool → Option α) → Option α)  (m422 : Nat) (m423 : Nat) (m424 : Nat) (m425 : Nat) (m426 : Nat) (m427 : Nat) (m429 : Nat) (a430 : List (List Int)) (m431 : Nat) (a432 : List (List Int)) (k463 : Option α) (k464 : Option α) : Nat → Int → Option α
  | 0 => fun _ => none
  | m + 1 => fun v428 => g15v1l0b G_g41 m422 m423 m424 m425 m426 m427 m429 a430 m431 a432 k463 k464 (g15v1l0 G_g41 m422 m423 m424 m425 m426 m427 m429 a430 m431 a432 k463 k464 m) v428
def g15v1l0M {α : Type} (m : Nat) : Nat → Nat → Nat → Nat → Nat → Nat → Nat → (List (List Int)) → Nat → (List (List Int)) → (Option α) → (Option α) → Int → Option α :=
  fun m422 m423 m424 m425 m426 m427 m429 a430 m431 a432 k463 k464 v428 => g15v1l0 (g41 m) m422 m423 m424 m425 m426 m427 m429 a430 m431 a432 k463 k464 m v428
def g15v1l0D : LoopD := { n := 27, low := [0, 1], sl := [0, 1, 5], bl := [0, 1], tp := [(.vl (.sv (.slc 0 0 5))), (.vl (.sv (.slc 1 0 5))), (.vl (.sv (.int .i64)))], bp := [(false, [(.seqv (.rc [.i8, .i16, .i16, .i64, .i64]))]), (false, [(.seqv (.rc [.i8, .i16, .i16, .i64, .i64]))])], xs := [(1, [4]), (2, [])] }
def g15v1l0K {α : Type} (L : Nat → Nat → Nat → Nat → Nat → Nat → Nat → (List (List Int)) → Nat → (List (List Int)) → (Option α) → (Option α) → Int → Option α) (ls : List Lf) (k : Ex → St → Option α) : Option α :=
  L (lf ls 0).nat (lf ls 1).nat (lf ls 2).nat (lf ls 3).nat (lf ls 4).nat (lf ls 5).nat (lf ls 7).nat ((lf ls 8).lst (.rc [.i8, .i16, .i16, .i64, .i64])) (lf ls 9).nat ((lf ls 10).lst (.rc [.i8, .i16, .i16, .i64, .i64]))
    (k .ret (mkSt 27 [4] [(.vl (.sv (.bool false)))] [0, 1] [(false, [(.seq (.rc [.i8, .i16, .i16, .i64, .i64]) (lf ls 7).nat ((lf ls 8).lst (.rc [.i8, .i16, .i16, .i64, .i64])))]), (false, [(.seq (.rc [.i8, .i16, .i16, .i64, .i64]) (lf ls 9).nat ((lf ls 10).lst (.rc [.i8, .i16, .i16, .i64, .i64])))])]))
    (k .normal (mkSt 27 [] [] [0, 1] [(false, [(.seq (.rc [.i8, .i16, .i16, .i64, .i64]) (lf ls 7).nat ((lf ls 8).lst (.rc [.i8, .i16, .i16, .i64, .i64])))]), (false, [(.seq (.rc [.i8, .i16, .i16, .i64, .i64]) (lf ls 9).nat ((lf ls 10).lst (.rc [.i8, .i16, .i16, .i64, .i64])))])]))
    (lf ls 6).int
def g15v1b {α : Type} (G_g41 : {α : Type} → Int → Int → Int → Int → Int → Int → Int → Int → Int → Int → (Bool → Option α) → Option α) (L_g15v1l0 : {α : Type} → Nat → Nat → Nat → Nat → Nat → Nat → Nat → (List (List Int)) → Nat → (List (List Int)) → (Option α) → (Option α) → Int → Option α) (m411 : Nat) (m412 : Nat) (m413 : Nat) (m414 : Nat) (m415 : Nat) (m416 : Nat) (m417 : Nat) (u418 : List (List Int)) (m419 : Nat) (u420 : List (List Int)) (k466 : Bool → Option α) : Option α :=
  cond (((m412 : Nat) : Int) != ((m415 : Nat) : Int))
   (
    k466 false)
   (
    L_g15v1l0 m411 m412 m413 m414 m415 m416 m417 u418 m419 u420
      (
        k466 false)
      (
        k466 true)
      (0 : Int))
def g15v1 {α : Type} (m : Nat) : Nat → Nat → Nat → Nat → Nat → Nat → Nat → (List (List Int)) → Nat → (List (List Int)) → (Bool → Option α) → Option α :=
  g15v1b (g41 m) (g15v1l0M m)
def g15v1tp : List TP := [(.vl (.sv (.slc 0 0 5))), (.vl (.sv (.slc 1 0 5)))]
def g15v1bp : List BP := [(false, [(.seqv (.rc [.i8, .i16, .i16, .i64, .i64]))]), (false, [(.seqv (.rc [.i8, .i16, .i16, .i64, .i64]))])]
def g15v1K {α : Type} (G : Nat → Nat → Nat → Nat → Nat → Nat → Nat → (List (List Int)) → Nat → (List (List Int)) → (Bool → Option α) → Option α) (ls : List Lf) (k : TV → List (List Seg) → List (List Seg) → Option α) : Option α :=
  G (lf ls 0).nat (lf ls 1).nat (lf ls 2).nat (lf ls 3).nat (lf ls 4).nat (lf ls 5).nat (lf ls 6).nat ((lf ls 7).lst (.rc [.i8, .i16, .i16, .i64, .i64])) (lf ls 8).nat ((lf ls 9).lst (.rc [.i8, .i16, .i16, .i64, .i64]))
    (fun y0 => k (.vl (.sv (.bool y0))) [[(.seq (.rc [.i8, .i16, .i16, .i64, .i64]) (lf ls 6).nat ((lf ls 7).lst (.rc [.i8, .i16, .i16, .i64, .i64])))], [(.seq (.rc [.i8, .i16, .i16, .i64, .i64]) (lf ls 8).nat ((lf ls 9).lst (.rc [.i8, .i16, .i16, .i64, .i64])))]] [])
def g15v1hd (G_g41 : {α : Type} → Int → Int → Int → Int → Int → Int → Int → Int → Int → Int → (Bool → Option α) → Option α) (L_g15v1l0 : {α : Type} → Nat → Nat → Nat → Nat → Nat → Nat → Nat → (List (List Int)) → Nat → (List (List Int)) → (Option α) → (Option α) → Int → Option α) : Hd where
  call := fun f args Bs k => cond (Nat.beq f 41) (rowK g41tp g41bp (g41K G_g41) args Bs k) (none)
  loop := fun id st k => cond (Nat.beq id 0) (loopH g15v1l0D (g15v1l0K L_g15v1l0) st k) (none)
  ro := fun f => []
def g15v1h (m : Nat) : Hd := g15v1hd (g41 m) (g15v1l0M m)
theorem g15v1l0Step (G_g41 : {α : Type} → Int → Int → Int → Int → Int → Int → Int → Int → Int → Int → (Bool → Option α) → Option α) (L_g15v1l0 : {α : Type} → Nat → Nat → Nat → Nat → Nat → Nat → Nat → (List (List Int)) → Nat → (List (List Int)) → (Option α) → (Option α) → Int → Option α) {α : Type} (L : Nat → Nat → Nat → Nat → Nat → Nat → Nat → (List (List Int)) → Nat → (List (List Int)) → (Option α) → (Option α) → Int → Option α) (ls : List Lf) (k : Ex → St → Option α) :
    g15v1l0K (fun m422 m423 m424 m425 m426 m427 m429 a430 m431 a432 k463 k464 v428 => g15v1l0b G_g41 m422 m423 m424 m425 m426 m427 m429 a430 m431 a432 k463 k464 (L m422 m423 m424 m425 m426 m427 m429 a430 m431 a432 k463 k464) v428) ls k = ev tab (g15v1hd G_g41 L_g15v1l0) (bodyAt Go.Proofs.Try.f15 0) (atHead g15v1l0D ls) (loopK g15v1l0D 0 (loopH g15v1l0D (g15v1l0K L)) k) := by kernel_rfl
theorem g15v1Main (G_g41 : {α : Type} → Int → Int → Int → Int → Int → Int → Int → Int → Int → Int → (Bool → Option α) → Option α) (L_g15v1l0 : {α : Type} → Nat → Nat → Nat → Nat → Nat → Nat → Nat → (List (List Int)) → Nat → (List (List Int)) → (Option α) → (Option α) → Int → Option α) {α : Type} (ls : List Lf) (k : TV → List (List Seg) → List (List Seg) → Option α) :
    g15v1K (g15v1b G_g41 L_g15v1l0) ls k = evFun tab (g15v1hd G_g41 L_g15v1l0) Go.Proofs.Try.f15 (fillT g15v1tp ls).1 (fillB g15v1bp (fillT g15v1tp ls).2).1 k := by kernel_rfl
theorem g15v1Calls (m : Nat) : (g15v1h m).CallsOk Go.Proofs.Try.prog := (cok_cons (g41Ok m) cok_nil)
theorem g15v1l0Ok (m : Nat) (α : Type) (st : St) (k : Ex → St → Option α) (r : α) (h : (g15v1h m).loop 0 st k = some r) :
    ∃ e st', k e st' = some r ∧ CodeS Go.Proofs.Try.prog (.block 0 (.loop (bodyAt Go.Proofs.Try.f15 0))) st e st' :=
  loop_ok (tab := tab) (h := g15v1h m) (F := fun n ls k => g15v1l0K (fun m422 m423 m424 m425 m426 m427 m429 a430 m431 a432 k463 k464 v428 => g15v1l0 (g41 m) m422 m423 m424 m425 m426 m427 m429 a430 m431 a432 k463 k464 n v428) ls k) tabOk (g15v1Calls m) mixed (loopsOk_of _ (fun p hp => by rw [show loopsOf (bodyAt Go.Proofs.Try.f15 0) = [] by kernel_rfl] at hp; cases hp))
    (fun _ _ => rfl) (fun n ls k => g15v1l0Step (g41 m) (g15v1l0M m) (fun m422 m423 m424 m425 m426 m427 m429 a430 m431 a432 k463 k464 => g15v1l0 (g41 m) m422 m423 m424 m425 m426 m427 m429 a430 m431 a432 k463 k464 n) ls k) (n := m) h
theorem g15v1Fn (m : Nat) : FnOk Go.Proofs.Try.prog 15 g15v1tp g15v1bp (fun {α} => g15v1K (g15v1 (α := α) m)) :=
  fn_ok (tab := tab) (h := g15v1h m) (fn := Go.Proofs.Try.f15) (F := fun {α} => g15v1K (g15v1 (α := α) m)) tabOk (g15v1Calls m) mixed (by kernel_rfl) (by kernel_rfl) (fun c hc => by
    rw [bodyOf_some hc]
    exact loopsOk_of _ (fun p hp => by
    rw [show loopsOf (bodyOf Go.Proofs.Try.f15) = [(0, bodyAt Go.Proofs.Try.f15 0)] by kernel_rfl] at hp
    simp only [List.mem_cons, List.not_mem_nil, or_false] at hp
    rcases hp with rfl
    exact g15v1l0Ok m))
    (fun α ls k => g15v1Main (g41 m) (g15v1l0M m) ls k)
theorem g15v1Ok (m : Nat) : RowOk Go.Proofs.Try.prog 15 (fun {α} => rowK g15v1tp g15v1bp (g15v1K (g15v1 (α := α) m))) := row_of (g15v1Fn m)

/-! ### g29: laws.markNodeS -/
def g29l0b {α : Type}   (m478 : Nat) (m479 : Nat) (m480 : Nat) (m483 : Nat) (k500 : Int → (List (List Int)) → Option α) (r501 : Int → Int → (List (List Int)) → Option α) (v481 : Int) (v482 : Int) (a484 : List (List Int)) : Option α :=
  cond (decide (v482 < ((m479 : Nat) : Int)))
   (
    if 0 ≤ v482 ∧ v482 < (m479 : Nat) then
      if (m478 + v482.toNat) < m483 then
        let l487 : List (List Int) := List.set a484 (m478 + v482.toNat) [(IntKind.wrap .i8 v481), (List.getD a484 (m478 + v482.toNat) []).tail.headD 0, (List.getD a484 (m478 + v482.toNat) []).tail.tail.headD 0, (List.getD a484 (m478 + v482.toNat) []).tail.tail.tail.headD 0, (List.getD a484 (m478 + v482.toNat) []).tail.tail.tail.tail.headD 0]
        let x488 : Int := IntKind.wrap .i64 (v481 + (1 : Int))
        if 0 ≤ v482 ∧ v482 < (m479 : Nat) then
          if (m478 + v482.toNat) < m483 then
            let l490 : List (List Int) := List.set l487 (m478 + v482.toNat) [(List.getD l487 (m478 + v482.toNat) []).headD 0, (IntKind.wrap .i16 x488), (List.getD l487 (m478 + v482.toNat) []).tail.tail.headD 0, (List.getD l487 (m478 + v482.toNat) []).tail.tail.tail.headD 0, (List.getD l487 (m478 + v482.toNat) []).tail.tail.tail.tail.headD 0]
            let x491 : Int := IntKind.wrap .i64 (x488 + (1 : Int))
            if 0 ≤ v482 ∧ v482 < (m479 : Nat) then
              if (m478 + v482.toNat) < m483 then
                let l493 : List (List Int) := List.set l490 (m478 + v482.toNat) [(List.getD l490 (m478 + v482.toNat) []).headD 0, (List.getD l490 (m478 + v482.toNat) []).tail.headD 0, (IntKind.wrap .i16 x491), (List.getD l490 (m478 + v482.toNat) []).tail.tail.tail.headD 0, (List.getD l490 (m478 + v482.toNat) []).tail.tail.tail.tail.headD 0]
                let x494 : Int := IntKind.wrap .i64 (x491 + (1 : Int))
                if 0 ≤ v482 ∧ v482 < (m479 : Nat) then
                  if (m478 + v482.toNat) < m483 then
                    let l495 : List (List Int) := List.set l493 (m478 + v482.toNat) [(List.getD l493 (m478 + v482.toNat) []).headD 0, (List.getD l493 (m478 + v482.toNat) []).tail.headD 0, (List.getD l493 (m478 + v482.toNat) []).tail.tail.headD 0, x494, (List.getD l493 (m478 + v482.toNat) []).tail.tail.tail.tail.headD 0]
                    let x496 : Int := IntKind.wrap .i64 (x494 + (1 : Int))
                    if 0 ≤ v482 ∧ v482 < (m479 : Nat) then
                      if (m478 + v482.toNat) < m483 then
                        r501 (IntKind.wrap .i64 (x496 + (1 : Int))) (IntKind.wrap .i64 (v482 + (1 : Int))) (List.set l495 (m478 + v482.toNat) [(List.getD l495 (m478 + v482.toNat) []).headD 0, (List.getD l495 (m478 + v482.toNat) []).tail.headD 0, (List.getD l495 (m478 + v482.toNat) []).tail.tail.headD 0, (List.getD l495 (m478 + v482.toNat) []).tail.tail.tail.headD 0, x496])
                      else
                        none
                    else
                      none
                  else
                    none
                else
                  none
              else
                none
            else
              none
          else
            none
        else
          none
      else
        none
    else
      none)
   (
    k500 v481 a484)
def g29l0 {α : Type}   (m478 : Nat) (m479 : Nat) (m480 : Nat) (m483 : Nat) (k500 : Int → (List (List Int)) → Option α) : Nat → Int → Int → (List (List Int)) → Option α
  | 0 => fun _ _ _ => none
  | m + 1 => fun v481 v482 a484 => g29l0b m478 m479 m480 m483 k500 (g29l0 m478 m479 m480 m483 k500 m) v481 v482 a484
def g29l0M {α : Type} (m : Nat) : Nat → Nat → Nat → Nat → (Int → (List (List Int)) → Option α) → Int → Int → (List (List Int)) → Option α :=
  fun m478 m479 m480 m483 k500 v481 v482 a484 => g29l0 m478 m479 m480 m483 k500 m v481 v482 a484
def g29l0D : LoopD := { n := 51, low := [0], sl := [0, 1, 5], bl := [0], tp := [(.vl (.sv (.slc 0 0 5))), (.vl (.sv (.int .i64))), (.vl (.sv (.int .i64)))], bp := [(true, [(.seqv (.rc [.i8, .i16, .i16, .i64, .i64]))])], xs := [(2, [1])] }
def g29l0K {α : Type} (L : Nat → Nat → Nat → Nat → (Int → (List (List Int)) → Option α) → Int → Int → (List (List Int)) → Option α) (ls : List Lf) (k : Ex → St → Option α) : Option α :=
  L (lf ls 0).nat (lf ls 1).nat (lf ls 2).nat (lf ls 5).nat
    (fun y0 y2 => k .normal (mkSt 51 [1] [(.vl (.sv (.int .i64 y0)))] [0] [(true, [(.seq (.rc [.i8, .i16, .i16, .i64, .i64]) (lf ls 5).nat y2)])]))
    (lf ls 3).int (lf ls 4).int ((lf ls 6).lst (.rc [.i8, .i16, .i16, .i64, .i64]))
def g29b {α : Type}  (L_g29l0 : {α : Type} → Nat → Nat → Nat → Nat → (Int → (List (List Int)) → Option α) → Int → Int → (List (List Int)) → Option α) (m472 : Nat) (m473 : Nat) (m474 : Nat) (p475 : Int) (m476 : Nat) (u477 : List (List Int)) (k504 : Int → (List (List Int)) → Option α) : Option α :=
  L_g29l0 m472 m473 m474 m476
    (fun x502 l503 =>
      k504 x502 l503)
    p475 (0 : Int) u477
def g29 {α : Type} (m : Nat) : Nat → Nat → Nat → Int → Nat → (List (List Int)) → (Int → (List (List Int)) → Option α) → Option α :=
  g29b (g29l0M m)
def g29tp : List TP := [(.vl (.sv (.slc 0 0 5))), (.vl (.sv (.int .i64)))]
def g29bp : List BP := [(true, [(.seqv (.rc [.i8, .i16, .i16, .i64, .i64]))])]
def g29K {α : Type} (G : Nat → Nat → Nat → Int → Nat → (List (List Int)) → (Int → (List (List Int)) → Option α) → Option α) (ls : List Lf) (k : TV → List (List Seg) → List (List Seg) → Option α) : Option α :=
  G (lf ls 0).nat (lf ls 1).nat (lf ls 2).nat (lf ls 3).int (lf ls 4).nat ((lf ls 5).lst (.rc [.i8, .i16, .i16, .i64, .i64]))
    (fun y0 y2 => k (.vl (.sv (.int .i64 y0))) [[(.seq (.rc [.i8, .i16, .i16, .i64, .i64]) (lf ls 4).nat y2)]] [])
def g29hd  (L_g29l0 : {α : Type} → Nat → Nat → Nat → Nat → (Int → (List (List Int)) → Option α) → Int → Int → (List (List Int)) → Option α) : Hd where
  call := fun f args Bs k => none
  loop := fun id st k => cond (Nat.beq id 0) (loopH g29l0D (g29l0K L_g29l0) st k) (none)
  ro := fun f => []
def g29h (m : Nat) : Hd := g29hd (g29l0M m)
theorem g29l0Step  (L_g29l0 : {α : Type} → Nat → Nat → Nat → Nat → (Int → (List (List Int)) → Option α) → Int → Int → (List (List Int)) → Option α) {α : Type} (L : Nat → Nat → Nat → Nat → (Int → (List (List Int)) → Option α) → Int → Int → (List (List Int)) → Option α) (ls : List Lf) (k : Ex → St → Option α) :
    g29l0K (fun m478 m479 m480 m483 k500 v481 v482 a484 => g29l0b m478 m479 m480 m483 k500 (L m478 m479 m480 m483 k500) v481 v482 a484) ls k = ev tab (g29hd L_g29l0) (bodyAt Go.Proofs.Try.f29 0) (atHead g29l0D ls) (loopK g29l0D 0 (loopH g29l0D (g29l0K L)) k) := by kernel_rfl
theorem g29Main  (L_g29l0 : {α : Type} → Nat → Nat → Nat → Nat → (Int → (List (List Int)) → Option α) → Int → Int → (List (List Int)) → Option α) {α : Type} (ls : List Lf) (k : TV → List (List Seg) → List (List Seg) → Option α) :
    g29K (g29b L_g29l0) ls k = evFun tab (g29hd L_g29l0) Go.Proofs.Try.f29 (fillT g29tp ls).1 (fillB g29bp (fillT g29tp ls).2).1 k := by kernel_rfl
theorem g29Calls (m : Nat) : (g29h m).CallsOk Go.Proofs.Try.prog := cok_nil
theorem g29l0Ok (m : Nat) (α : Type) (st : St) (k : Ex → St → Option α) (r : α) (h : (g29h m).loop 0 st k = some r) :
    ∃ e st', k e st' = some r ∧ CodeS Go.Proofs.Try.prog (.block 0 (.loop (bodyAt Go.Proofs.Try.f29 0))) st e st' :=
  loop_ok (tab := tab) (h := g29h m) (F := fun n ls k => g29l0K (fun m478 m479 m480 m483 k500 v481 v482 a484 => g29l0 m478 m479 m480 m483 k500 n v481 v482 a484) ls k) tabOk (g29Calls m) mixed (loopsOk_of _ (fun p hp => by rw [show loopsOf (bodyAt Go.Proofs.Try.f29 0) = [] by kernel_rfl] at hp; cases hp))
    (fun _ _ => rfl) (fun n ls k => g29l0Step (g29l0M m) (fun m478 m479 m480 m483 k500 => g29l0 m478 m479 m480 m483 k500 n) ls k) (n := m) h
theorem g29Fn (m : Nat) : FnOk Go.Proofs.Try.prog 29 g29tp g29bp (fun {α} => g29K (g29 (α := α) m)) :=
  fn_ok (tab := tab) (h := g29h m) (fn := Go.Proofs.Try.f29) (F := fun {α} => g29K (g29 (α := α) m)) tabOk (g29Calls m) mixed (by kernel_rfl) (by kernel_rfl) (fun c hc => by
    rw [bodyOf_some hc]
    exact loopsOk_of _ (fun p hp => by
    rw [show loopsOf (bodyOf Go.Proofs.Try.f29) = [(0, bodyAt Go.Proofs.Try.f29 0)] by kernel_rfl] at hp
    simp only [List.mem_cons, List.not_mem_nil, or_false] at hp
    rcases hp with rfl
    exact g29l0Ok m))
    (fun α ls k => g29Main (g29l0M m) ls k)
theorem g29Ok (m : Nat) : RowOk Go.Proofs.Try.prog 29 (fun {α} => rowK g29tp g29bp (g29K (g29 (α := α) m))) := row_of (g29Fn m)

/-! ### g29v1: laws.markNodeS -/
def g29v1l0b {α : Type}   (v514 : Int) (v515 : Int) (k518 : Option α) (r519 : Option α)  : Option α :=
  cond (decide (v515 < (0 : Int)))
   (
    none)
   (
    k518)
def g29v1l0 {α : Type}   (v514 : Int) (v515 : Int) (k518 : Option α) : Nat → Option α
  | 0 => none
  | m + 1 => g29v1l0b v514 v515 k518 (g29v1l0 v514 v515 k518 m)
def g29v1l0M {α : Type} (m : Nat) : Int → Int → (Option α) → Option α :=
  fun v514 v515 k518  => g29v1l0 v514 v515 k518 m 
def g29v1l0D : LoopD := { n := 51, low := [], sl := [0, 1, 5], bl := [], tp := [(.vl (.sv .nils)), (.vl (.sv (.int .i64))), (.vl (.sv (.int .i64)))], bp := [], xs := [(2, [1])] }
def g29v1l0K {α : Type} (L : Int → Int → (Option α) → Option α) (ls : List Lf) (k : Ex → St → Option α) : Option α :=
  L (lf ls 0).int (lf ls 1).int
    (k .normal (mkSt 51 [1] [(.vl (.sv (.int .i64 (lf ls 0).int)))] [] []))
    
def g29v1b {α : Type}  (L_g29v1l0 : {α : Type} → Int → Int → (Option α) → Option α) (p513 : Int) (k520 : Option α) : Option α :=
  L_g29v1l0 p513 (0 : Int)
    (
      k520)
def g29v1 {α : Type} (m : Nat) : Int → (Option α) → Option α :=
  g29v1b (g29v1l0M m)
def g29v1tp : List TP := [(.vl (.sv .nils)), (.vl (.sv (.int .i64)))]
def g29v1bp : List BP := []
def g29v1K {α : Type} (G : Int → (Option α) → Option α) (ls : List Lf) (k : TV → List (List Seg) → List (List Seg) → Option α) : Option α :=
  G (lf ls 0).int
    (k (.vl (.sv (.int .i64 (lf ls 0).int))) [] [])
def g29v1hd  (L_g29v1l0 : {α : Type} → Int → Int → (Option α) → Option α) : Hd where
  call := fun f args Bs k => none
  loop := fun id st k => cond (Nat.beq id 0) (loopH g29v1l0D (g29v1l0K L_g29v1l0) st k) (none)
  ro := fun f => []
def g29v1h (m : Nat) : Hd := g29v1hd (g29v1l0M m)
theorem g29v1l0Step  (L_g29v1l0 : {α : Type} → Int → Int → (Option α) → Option α) {α : Type} (L : Int → Int → (Option α) → Option α) (ls : List Lf) (k : Ex → St → Option α) :
    g29v1l0K (fun v514 v515 k518 => g29v1l0b v514 v515 k518 (L v514 v515 k518) ) ls k = ev tab (g29v1hd L_g29v1l0) (bodyAt Go.Proofs.Try.f29 0) (atHead g29v1l0D ls) (loopK g29v1l0D 0 (loopH g29v1l0D (g29v1l0K L)) k) := by kernel_rfl
theorem g29v1Main  (L_g29v1l0 : {α : Type} → Int → Int → (Option α) → Option α) {α : Type} (ls : List Lf) (k : TV → List (List Seg) → List (List Seg) → Option α) :
    g29v1K (g29v1b L_g29v1l0) ls k = evFun tab (g29v1hd L_g29v1l0) Go.Proofs.Try.f29 (fillT g29v1tp ls).1 (fillB g29v1bp (fillT g29v1tp ls).2).1 k := by kernel_rfl
theorem g29v1Calls (m : Nat) : (g29v1h m).CallsOk Go.Proofs.Try.prog := cok_nil
theorem g29v1l0Ok (m : Nat) (α : Type) (st : St) (k : Ex → St → Option α) (r : α) (h : (g29v1h m).loop 0 st k = some r) :
    ∃ e st', k e st' = some r ∧ CodeS Go.Proofs.Try.prog (.block 0 (.loop (bodyAt Go.Proofs.Try.f29 0))) st e st' :=
  loop_ok (tab := tab) (h := g29v1h m) (F := fun n ls k => g29v1l0K (fun v514 v515 k518 => g29v1l0 v514 v515 k518 n ) ls k) tabOk (g29v1Calls m) mixed (loopsOk_of _ (fun p hp => by rw [show loopsOf (bodyAt Go.Proofs.Try.f29 0) = [] by kernel_rfl] at hp; cases hp))
    (fun _ _ => rfl) (fun n ls k => g29v1l0Step (g29v1l0M m) (fun v514 v515 k518 => g29v1l0 v514 v515 k518 n) ls k) (n := m) h
theorem g29v1Fn (m : Nat) : FnOk Go.Proofs.Try.prog 29 g29v1tp g29v1bp (fun {α} => g29v1K (g29v1 (α := α) m)) :=
  fn_ok (tab := tab) (h := g29v1h m) (fn := Go.Proofs.Try.f29) (F := fun {α} => g29v1K (g29v1 (α := α) m)) tabOk (g29v1Calls m) mixed (by kernel_rfl) (by kernel_rfl) (fun c hc => by
    rw [bodyOf_some hc]
    exact loopsOk_of _ (fun p hp => by
    rw [show loopsOf (bodyOf Go.Proofs.Try.f29) = [(0, bodyAt Go.Proofs.Try.f29 0)] by kernel_rfl] at hp
    simp only [List.mem_cons, List.not_mem_nil, or_false] at hp
    rcases hp with rfl
    exact g29v1l0Ok m))
    (fun α ls k => g29v1Main (g29v1l0M m) ls k)
theorem g29v1Ok (m : Nat) : RowOk Go.Proofs.Try.prog 29 (fun {α} => rowK g29v1tp g29v1bp (g29v1K (g29v1 (α := α) m))) := row_of (g29v1Fn m)

/-! ### g34: laws.heldNodeS -/
def g34l0b {α : Type}   (v522 : Int) (v523 : Int) (k525 : Option α) (r526 : Option α)  : Option α :=
  cond (decide (v523 < (0 : Int)))
   (
    none)
   (
    k525)
def g34l0 {α : Type}   (v522 : Int) (v523 : Int) (k525 : Option α) : Nat → Option α
  | 0 => none
  | m + 1 => g34l0b v522 v523 k525 (g34l0 v522 v523 k525 m)
def g34l0M {α : Type} (m : Nat) : Int → Int → (Option α) → Option α :=
  fun v522 v523 k525  => g34l0 v522 v523 k525 m 
def g34l0D : LoopD := { n := 61, low := [], sl := [0, 1, 5], bl := [], tp := [(.vl (.sv .nils)), (.vl (.sv (.int .i64))), (.vl (.sv (.int .i64)))], bp := [], xs := [(2, [1])] }
def g34l0K {α : Type} (L : Int → Int → (Option α) → Option α) (ls : List Lf) (k : Ex → St → Option α) : Option α :=
  L (lf ls 0).int (lf ls 1).int
    (k .normal (mkSt 61 [1] [(.vl (.sv (.int .i64 (lf ls 0).int)))] [] []))
    
def g34b {α : Type}  (L_g34l0 : {α : Type} → Int → Int → (Option α) → Option α) (p521 : Int) (k527 : Option α) : Option α :=
  L_g34l0 p521 (0 : Int)
    (
      k527)
def g34 {α : Type} (m : Nat) : Int → (Option α) → Option α :=
  g34b (g34l0M m)
def g34tp : List TP := [(.vl (.sv .nils)), (.vl (.sv (.int .i64)))]
def g34bp : List BP := []
def g34K {α : Type} (G : Int → (Option α) → Option α) (ls : List Lf) (k : TV → List (List Seg) → List (List Seg) → Option α) : Option α :=
  G (lf ls 0).int
    (k (.vl (.sv (.int .i64 (lf ls 0).int))) [] [])
def g34hd  (L_g34l0 : {α : Type} → Int → Int → (Option α) → Option α) : Hd where
  call := fun f args Bs k => none
  loop := fun id st k => cond (Nat.beq id 0) (loopH g34l0D (g34l0K L_g34l0) st k) (none)
  ro := fun f => []
def g34h (m : Nat) : Hd := g34hd (g34l0M m)
theorem g34l0Step  (L_g34l0 : {α : Type} → Int → Int → (Option α) → Option α) {α : Type} (L : Int → Int → (Option α) → Option α) (ls : List Lf) (k : Ex → St → Option α) :
    g34l0K (fun v522 v523 k525 => g34l0b v522 v523 k525 (L v522 v523 k525) ) ls k = ev tab (g34hd L_g34l0) (bodyAt Go.Proofs.Try.f34 0) (atHead g34l0D ls) (loopK g34l0D 0 (loopH g34l0D (g34l0K L)) k) := by kernel_rfl
theorem g34Main  (L_g34l0 : {α : Type} → Int → Int → (Option α) → Option α) {α : Type} (ls : List Lf) (k : TV → List (List Seg) → List (List Seg) → Option α) :
    g34K (g34b L_g34l0) ls k = evFun tab (g34hd L_g34l0) Go.Proofs.Try.f34 (fillT g34tp ls).1 (fillB g34bp (fillT g34tp ls).2).1 k := by kernel_rfl
theorem g34Calls (m : Nat) : (g34h m).CallsOk Go.Proofs.Try.prog := cok_nil
theorem g34l0Ok (m : Nat) (α : Type) (st : St) (k : Ex → St → Option α) (r : α) (h : (g34h m).loop 0 st k = some r) :
    ∃ e st', k e st' = some r ∧ CodeS Go.Proofs.Try.prog (.block 0 (.loop (bodyAt Go.Proofs.Try.f34 0))) st e st' :=
  loop_ok (tab := tab) (h := g34h m) (F := fun n ls k => g34l0K (fun v522 v523 k525 => g34l0 v522 v523 k525 n ) ls k) tabOk (g34Calls m) mixed (loopsOk_of _ (fun p hp => by rw [show loopsOf (bodyAt Go.Proofs.Try.f34 0) = [] by kernel_rfl] at hp; cases hp))
    (fun _ _ => rfl) (fun n ls k => g34l0Step (g34l0M m) (fun v522 v523 k525 => g34l0 v522 v523 k525 n) ls k) (n := m) h
theorem g34Fn (m : Nat) : FnOk Go.Proofs.Try.prog 34 g34tp g34bp (fun {α} => g34K (g34 (α := α) m)) :=
  fn_ok (tab := tab) (h := g34h m) (fn := Go.Proofs.Try.f34) (F := fun {α} => g34K (g34 (α := α) m)) tabOk (g34Calls m) mixed (by kernel_rfl) (by kernel_rfl) (fun c hc => by
    rw [bodyOf_some hc]
    exact loopsOk_of _ (fun p hp => by
    rw [show loopsOf (bodyOf Go.Proofs.Try.f34) = [(0, bodyAt Go.Proofs.Try.f34 0)] by kernel_rfl] at hp
    simp only [List.mem_cons, List.not_mem_nil, or_false] at hp
    rcases hp with rfl
    exact g34l0Ok m))
    (fun α ls k => g34Main (g34l0M m) ls k)
theorem g34Ok (m : Nat) : RowOk Go.Proofs.Try.prog 34 (fun {α} => rowK g34tp g34bp (g34K (g34 (α := α) m))) := row_of (g34Fn m)

/-! ### g15v2: laws.eqNodeS -/
def g15v2l0b {α : Type} (G_g41 : {α : Type} → Int → Int → Int → Int → Int → Int → Int → Int → Int → Int → (Bool → Option α) → Option α)  (a539 : List (List Int)) (a540 : List (List Int)) (k555 : Option α) (k556 : Option α) (r557 : Int → Option α) (v538 : Int) : Option α :=
  cond (decide (v538 < ((a539.length : Nat) : Int)))
   (
    if 0 ≤ v538 ∧ v538 < (a539.length : Nat) then
      if v538.toNat < a539.length then
        if 0 ≤ v538 ∧ v538 < (a540.length : Nat) then
          if v538.toNat < a540.length then
            G_g41 ((List.getD a539 v538.toNat []).headD 0) ((List.getD a539 v538.toNat []).tail.headD 0) ((List.getD a539 v538.toNat []).tail.tail.headD 0) ((List.getD a539 v538.toNat []).tail.tail.tail.headD 0) ((List.getD a539 v538.toNat []).tail.tail.tail.tail.headD 0) ((List.getD a540 v538.toNat []).headD 0) ((List.getD a540 v538.toNat []).tail.headD 0) ((List.getD a540 v538.toNat []).tail.tail.headD 0) ((List.getD a540 v538.toNat []).tail.tail.tail.headD 0) ((List.getD a540 v538.toNat []).tail.tail.tail.tail.headD 0)
              (fun b552 =>
                cond (!b552)
                 (
                  k555)
                 (
                  r557 (IntKind.wrap .i64 (v538 + (1 : Int)))))
          else
            none
        else
          none
      else
        none
    else
      none)
   (
    k556)
def g15v2l0 {α : Type} (G_g41 : {α : Type} → Int → Int → Int → Int → Int → Int → Int → Int → Int → Int → (Bool → Option α) → Option α)  (a539 : List (List Int)) (a540 : List (List Int)) (k555 : Option α) (k556 : Option α) : Nat → Int → Option α
  | 0 => fun _ => none
  | m + 1 => fun v538 => g15v2l0b G_g41 a539 a540 k555 k556 (g15v2l0 G_g41 a539 a540 k555 k556 m) v538
def g15v2l0M {α : Type} (m : Nat) : (List (List Int)) → (List (List Int)) → (Option α) → (Option α) → Int → Option α :=
  fun a539 a540 k555 k556 v538 => g15v2l0 (g41 m) a539 a540 k555 k556 m v538
def g15v2l0D : LoopD := { n := 27, low := [0, 1], sl := [0, 1, 5], bl := [0, 1], tp := [(.vl (.sv (.gsl 0 5))), (.vl (.sv (.gsl 1 5))), (.vl (.sv (.int .i64)))], bp := [(false, [(.gro (.rc [.i8, .i16, .i16, .i64, .i64]))]), (false, [(.gro (.rc [.i8, .i16, .i16, .i64, .i64]))])], xs := [(1, [4]), (2, [])] }
def g15v2l0K {α : Type} (L : (List (List Int)) → (List (List Int)) → (Option α) → (Option α) → Int → Option α) (ls : List Lf) (k : Ex → St → Option α) : Option α :=
  L ((lf ls 1).lst (.rc [.i8, .i16, .i16, .i64, .i64])) ((lf ls 2).lst (.rc [.i8, .i16, .i16, .i64, .i64]))
    (k .ret (mkSt 27 [4] [(.vl (.sv (.bool false)))] [0, 1] [(false, [(.gro (.rc [.i8, .i16, .i16, .i64, .i64]) ((lf ls 1).lst (.rc [.i8, .i16, .i16, .i64, .i64])))]), (false, [(.gro (.rc [.i8, .i16, .i16, .i64, .i64]) ((lf ls 2).lst (.rc [.i8, .i16, .i16, .i64, .i64])))])]))
    (k .normal (mkSt 27 [] [] [0, 1] [(false, [(.gro (.rc [.i8, .i16, .i16, .i64, .i64]) ((lf ls 1).lst (.rc [.i8, .i16, .i16, .i64, .i64])))]), (false, [(.gro (.rc [.i8, .i16, .i16, .i64, .i64]) ((lf ls 2).lst (.rc [.i8, .i16, .i16, .i64, .i64])))])]))
    (lf ls 0).int
def g15v2b {α : Type} (G_g41 : {α : Type} → Int → Int → Int → Int → Int → Int → Int → Int → Int → Int → (Bool → Option α) → Option α) (L_g15v2l0 : {α : Type} → (List (List Int)) → (List (List Int)) → (Option α) → (Option α) → Int → Option α) (u535 : List (List Int)) (u536 : List (List Int)) (k558 : Bool → Option α) : Option α :=
  cond (((u535.length : Nat) : Int) != ((u536.length : Nat) : Int))
   (
    k558 false)
   (
    L_g15v2l0 u535 u536
      (
        k558 false)
      (
        k558 true)
      (0 : Int))
def g15v2 {α : Type} (m : Nat) : (List (List Int)) → (List (List Int)) → (Bool → Option α) → Option α :=
  g15v2b (g41 m) (g15v2l0M m)
def g15v2tp : List TP := [(.vl (.sv (.gsl 0 5))), (.vl (.sv (.gsl 1 5)))]
def g15v2bp : List BP := [(false, [(.gro (.rc [.i8, .i16, .i16, .i64, .i64]))]), (false, [(.gro (.rc [.i8, .i16, .i16, .i64, .i64]))])]
def g15v2K {α : Type} (G : (List (List Int)) → (List (List Int)) → (Bool → Option α) → Option α) (ls : List Lf) (k : TV → List (List Seg) → List (List Seg) → Option α) : Option α :=
  G ((lf ls 0).lst (.rc [.i8, .i16, .i16, .i64, .i64])) ((lf ls 1).lst (.rc [.i8, .i16, .i16, .i64, .i64]))
    (fun y0 => k (.vl (.sv (.bool y0))) [[(.gro (.rc [.i8, .i16, .i16, .i64, .i64]) ((lf ls 0).lst (.rc [.i8, .i16, .i16, .i64, .i64])))], [(.gro (.rc [.i8, .i16, .i16, .i64, .i64]) ((lf ls 1).lst (.rc [.i8, .i16, .i16, .i64, .i64])))]] [])
def g15v2hd (G_g41 : {α : Type} → Int → Int → Int → Int → Int → Int → Int → Int → Int → Int → (Bool → Option α) → Option α) (L_g15v2l0 : {α : Type} → (List (List Int)) → (List (List Int)) → (Option α) → (Option α) → Int → Option α) : Hd where
  call := fun f args Bs k => cond (Nat.beq f 41) (rowK g41tp g41bp (g41K G_g41) args Bs k) (none)
  loop := fun id st k => cond (Nat.beq id 0) (loopH g15v2l0D (g15v2l0K L_g15v2l0) st k) (none)
  ro := fun f => []
def g15v2h (m : Nat) : Hd := g15v2hd (g41 m) (g15v2l0M m)
theorem g15v2l0Step (G_g41 : {α : Type} → Int → Int → Int → Int → Int → Int → Int → Int → Int → Int → (Bool → Option α) → Option α) (L_g15v2l0 : {α : Type} → (List (List Int)) → (List (List Int)) → (Option α) → (Option α) → Int → Option α) {α : Type} (L : (List (List Int)) → (List (List Int)) → (Option α) → (Option α) → Int → Option α) (ls : List Lf) (k : Ex → St → Option α) :
    g15v2l0K (fun a539 a540 k555 k556 v538 => g15v2l0b G_g41 a539 a540 k555 k556 (L a539 a540 k555 k556) v538) ls k = ev tab (g15v2hd G_g41 L_g15v2l0) (bodyAt Go.Proofs.Try.f15 0) (atHead g15v2l0D ls) (loopK g15v2l0D 0 (loopH g15v2l0D (g15v2l0K L)) k) := by kernel_rfl
theorem g15v2Main (G_g41 : {α : Type} → Int → Int → Int → Int → Int → Int → Int → Int → Int → Int → (Bool → Option α) → Option α) (L_g15v2l0 : {α : Type} → (List (List Int)) → (List (List Int)) → (Option α) → (Option α) → Int → Option α) {α : Type} (ls : List Lf) (k : TV → List (List Seg) → List (List Seg) → Option α) :
    g15v2K (g15v2b G_g41 L_g15v2l0) ls k = evFun tab (g15v2hd G_g41 L_g15v2l0) Go.Proofs.Try.f15 (fillT g15v2tp ls).1 (fillB g15v2bp (fillT g15v2tp ls).2).1 k := by kernel_rfl
theorem g15v2Calls (m : Nat) : (g15v2h m).CallsOk Go.Proofs.Try.prog := (cok_cons (g41Ok m) cok_nil)
theorem g15v2l0Ok (m : Nat) (α : Type) (st : St) (k : Ex → St → Option α) (r : α) (h : (g15v2h m).loop 0 st k = some r) :
    ∃ e st', k e st' = some r ∧ CodeS Go.Proofs.Try.prog (.block 0 (.loop (bodyAt Go.Proofs.Try.f15 0))) st e st' :=
  loop_ok (tab := tab) (h := g15v2h m) (F := fun n ls k => g15v2l0K (fun a539 a540 k555 k556 v538 => g15v2l0 (g41 m) a539 a540 k555 k556 n v538) ls k) tabOk (g15v2Calls m) mixed (loopsOk_of _ (fun p hp => by rw [show loopsOf (bodyAt Go.Proofs.Try.f15 0) = [] by kernel_rfl] at hp; cases hp))
    (fun _ _ => rfl) (fun n ls k => g15v2l0Step (g41 m) (g15v2l0M m) (fun a539 a540 k555 k556 => g15v2l0 (g41 m) a539 a540 k555 k556 n) ls k) (n := m) h
theorem g15v2Fn (m : Nat) : FnOk Go.Proofs.Try.prog 15 g15v2tp g15v2bp (fun {α} => g15v2K (g15v2 (α := α) m)) :=
  fn_ok (tab := tab) (h := g15v2h m) (fn := Go.Proofs.Try.f15) (F := fun {α} => g15v2K (g15v2 (α := α) m)) tabOk (g15v2Calls m) mixed (by kernel_rfl) (by kernel_rfl) (fun c hc => by
    rw [bodyOf_some hc]
    exact loopsOk_of _ (fun p hp => by
    rw [show loopsOf (bodyOf Go.Proofs.Try.f15) = [(0, bodyAt Go.Proofs.Try.f15 0)] by kernel_rfl] at hp
    simp only [List.mem_cons, List.not_mem_nil, or_false] at hp
    rcases hp with rfl
    exact g15v2l0Ok m))
    (fun α ls k => g15v2Main (g41 m) (g15v2l0M m) ls k)
theorem g15v2Ok (m : Nat) : RowOk Go.Proofs.Try.prog 15 (fun {α} => rowK g15v2tp g15v2bp (g15v2K (g15v2 (α := α) m))) := row_of (g15v2Fn m)

/-! ### g29v2: laws.markNodeS -/
def g29v2l0b {α : Type}    (k600 : Int → (List (List Int)) → Option α) (r601 : Int → Int → (List (List Int)) → Option α) (v582 : Int) (v583 : Int) (a584 : List (List Int)) : Option α :=
  cond (decide (v583 < ((a584.length : Nat) : Int)))
   (
    if 0 ≤ v583 ∧ v583 < (a584.length : Nat) then
      if v583.toNat < a584.length then
        let l587 : List (List Int) := List.set a584 (v583.toNat) [(IntKind.wrap .i8 v582), (List.getD a584 v583.toNat []).tail.headD 0, (List.getD a584 v583.toNat []).tail.tail.headD 0, (List.getD a584 v583.toNat []).tail.tail.tail.headD 0, (List.getD a584 v583.toNat []).tail.tail.tail.tail.headD 0]
        let x588 : Int := IntKind.wrap .i64 (v582 + (1 : Int))
        if 0 ≤ v583 ∧ v583 < (l587.length : Nat) then
          if v583.toNat < l587.length then
            let l590 : List (List Int) := List.set l587 (v583.toNat) [(List.getD l587 v583.toNat []).headD 0, (IntKind.wrap .i16 x588), (List.getD l587 v583.toNat []).tail.tail.headD 0, (List.getD l587 v583.toNat []).tail.tail.tail.headD 0, (List.getD l587 v583.toNat []).tail.tail.tail.tail.headD 0]
            let x591 : Int := IntKind.wrap .i64 (x588 + (1 : Int))
            if 0 ≤ v583 ∧ v583 < (l590.length : Nat) then
              if v583.toNat < l590.length then
                let l593 : List (List Int) := List.set l590 (v583.toNat) [(List.getD l590 v583.toNat []).headD 0, (List.getD l590 v583.toNat []).tail.headD 0, (IntKind.wrap .i16 x591), (List.getD l590 v583.toNat []).tail.tail.tail.headD 0, (List.getD l590 v583.toNat []).tail.tail.tail.tail.headD 0]
                let x594 : Int := IntKind.wrap .i64 (x591 + (1 : Int))
                if 0 ≤ v583 ∧ v583 < (l593.length : Nat) then
                  if v583.toNat < l593.length then
                    let l595 : List (List Int) := List.set l593 (v583.toNat) [(List.getD l593 v583.toNat []).headD 0, (List.getD l593 v583.toNat []).tail.headD 0, (List.getD l593 v583.toNat []).tail.tail.headD 0, x594, (List.getD l593 v583.toNat []).tail.tail.tail.tail.headD 0]
                    let x596 : Int := IntKind.wrap .i64 (x594 + (1 : Int))
                    if 0 ≤ v583 ∧ v583 < (l595.length : Nat) then
                      if v583.toNat < l595.length then
                        r601 (IntKind.wrap .i64 (x596 + (1 : Int))) (IntKind.wrap .i64 (v583 + (1 : Int))) (List.set l595 (v583.toNat) [(List.getD l595 v583.toNat []).headD 0, (List.getD l595 v583.toNat []).tail.headD 0, (List.getD l595 v583.toNat []).tail.tail.headD 0, (List.getD l595 v583.toNat []).tail.tail.tail.headD 0, x596])
                      else
                        none
                    else
                      none
                  else
                    none
                else
                  none
              else
                none
            else
              none
          else
            none
        else
          none
      else
        none
    else
      none)
   (
    k600 v582 a584)
def g29v2l0 {α : Type}    (k600 : Int → (List (List Int)) → Option α) : Nat → Int → Int → (List (List Int)) → Option α
  | 0 => fun _ _ _ => none
  | m + 1 => fun v582 v583 a584 => g29v2l0b  k600 (g29v2l0  k600 m) v582 v583 a584
def g29v2l0M {α : Type} (m : Nat) : (Int → (List (List Int)) → Option α) → Int → Int → (List (List Int)) → Option α :=
  fun  k600 v582 v583 a584 => g29v2l0  k600 m v582 v583 a584
def g29v2l0D : LoopD := { n := 51, low := [0], sl := [0, 1, 5], bl := [0], tp := [(.vl (.sv (.gsl 0 5))), (.vl (.sv (.int .i64))), (.vl (.sv (.int .i64)))], bp := [(true, [(.gro (.rc [.i8, .i16, .i16, .i64, .i64]))])], xs := [(2, [1])] }
def g29v2l0K {α : Type} (L : (Int → (List (List Int)) → Option α) → Int → Int → (List (List Int)) → Option α) (ls : List Lf) (k : Ex → St → Option α) : Option α :=
  L 
    (fun y0 y1 => k .normal (mkSt 51 [1] [(.vl (.sv (.int .i64 y0)))] [0] [(true, [(.gro (.rc [.i8, .i16, .i16, .i64, .i64]) y1)])]))
    (lf ls 0).int (lf ls 1).int ((lf ls 2).lst (.rc [.i8, .i16, .i16, .i64, .i64]))
def g29v2b {α : Type}  (L_g29v2l0 : {α : Type} → (Int → (List (List Int)) → Option α) → Int → Int → (List (List Int)) → Option α) (p580 : Int) (u581 : List (List Int)) (k604 : Int → (List (List Int)) → Option α) : Option α :=
  L_g29v2l0
    (fun x602 l603 =>
      k604 x602 l603)
    p580 (0 : Int) u581
def g29v2 {α : Type} (m : Nat) : Int → (List (List Int)) → (Int → (List (List Int)) → Option α) → Option α :=
  g29v2b (g29v2l0M m)
def g29v2tp : List TP := [(.vl (.sv (.gsl 0 5))), (.vl (.sv (.int .i64)))]
def g29v2bp : List BP := [(true, [(.gro (.rc [.i8, .i16, .i16, .i64, .i64]))])]
def g29v2K {α : Type} (G : Int → (List (List Int)) → (Int → (List (List Int)) → Option α) → Option α) (ls : List Lf) (k : TV → List (List Seg) → List (List Seg) → Option α) : Option α :=
  G (lf ls 0).int ((lf ls 1).lst (.rc [.i8, .i16, .i16, .i64, .i64]))
    (fun y0 y1 => k (.vl (.sv (.int .i64 y0))) [[(.gro (.rc [.i8, .i16, .i16, .i64, .i64]) y1)]] [])
def g29v2hd  (L_g29v2l0 : {α : Type} → (Int → (List (List Int)) → Option α) → Int → Int → (List (List Int)) → Option α) : Hd where
  call := fun f args Bs k => none
  loop := fun id st k => cond (Nat.beq id 0) (loopH g29v2l0D (g29v2l0K L_g29v2l0) st k) (none)
  ro := fun f => []
def g29v2h (m : Nat) : Hd := g29v2hd (g29v2l0M m)
theorem g29v2l0Step  (L_g29v2l0 : {α : Type} → (Int → (List (List Int)) → Option α) → Int → Int → (List (List Int)) → Option α) {α : Type} (L : (Int → (List (List Int)) → Option α) → Int → Int → (List (List Int)) → Option α) (ls : List Lf) (k : Ex → St → Option α) :
    g29v2l0K (fun k600 v582 v583 a584 => g29v2l0b k600 (L k600) v582 v583 a584) ls k = ev tab (g29v2hd L_g29v2l0) (bodyAt Go.Proofs.Try.f29 0) (atHead g29v2l0D ls) (loopK g29v2l0D 0 (loopH g29v2l0D (g29v2l0K L)) k) := by kernel_rfl
theorem g29v2Main  (L_g29v2l0 : {α : Type} → (Int → (List (List Int)) → Option α) → Int → Int → (List (List Int)) → Option α) {α : Type} (ls : List Lf) (k : TV → List (List Seg) → List (List Seg) → Option α) :
    g29v2K (g29v2b L_g29v2l0) ls k = evFun tab (g29v2hd L_g29v2l0) Go.Proofs.Try.f29 (fillT g29v2tp ls).1 (fillB g29v2bp (fillT g29v2tp ls).2).1 k := by kernel_rfl
theorem g29v2Calls (m : Nat) : (g29v2h m).CallsOk Go.Proofs.Try.prog := cok_nil
theorem g29v2l0Ok (m : Nat) (α : Type) (st : St) (k : Ex → St → Option α) (r : α) (h : (g29v2h m).loop 0 st k = some r) :
    ∃ e st', k e st' = some r ∧ CodeS Go.Proofs.Try.prog (.block 0 (.loop (bodyAt Go.Proofs.Try.f29 0))) st e st' :=
  loop_ok (tab := tab) (h := g29v2h m) (F := fun n ls k => g29v2l0K (fun k600 v582 v583 a584 => g29v2l0 k600 n v582 v583 a584) ls k) tabOk (g29v2Calls m) mixed (loopsOk_of _ (fun p hp => by rw [show loopsOf (bodyAt Go.Proofs.Try.f29 0) = [] by kernel_rfl] at hp; cases hp))
    (fun _ _ => rfl) (fun n ls k => g29v2l0Step (g29v2l0M m) (fun k600 => g29v2l0 k600 n) ls k) (n := m) h
theorem g29v2Fn (m : Nat) : FnOk Go.Proofs.Try.prog 29 g29v2tp g29v2bp (fun {α} => g29v2K (g29v2 (α := α) m)) :=
  fn_ok (tab := tab) (h := g29v2h m) (fn := Go.Proofs.Try.f29) (F := fun {α} => g29v2K (g29v2 (α := α) m)) tabOk (g29v2Calls m) mixed (by kernel_rfl) (by kernel_rfl) (fun c hc => by
    rw [bodyOf_some hc]
    exact loopsOk_of _ (fun p hp => by
    rw [show loopsOf (bodyOf Go.Proofs.Try.f29) = [(0, bodyAt Go.Proofs.Try.f29 0)] by kernel_rfl] at hp
    simp only [List.mem_cons, List.not_mem_nil, or_false] at hp
    rcases hp with rfl
    exact g29v2l0Ok m))
    (fun α ls k => g29v2Main (g29v2l0M m) ls k)
theorem g29v2Ok (m : Nat) : RowOk Go.Proofs.Try.prog 29 (fun {α} => rowK g29v2tp g29v2bp (g29v2K (g29v2 (α := α) m))) := row_of (g29v2Fn m)

/-! ### g34v1: laws.heldNodeS -/
def g34v1l0b {α : Type}   (a611 : List (List Int)) (k632 : Option α) (k633 : Int → Option α) (r634 : Int → Int → Option α) (v609 : Int) (v610 : Int) : Option α :=
  cond (decide (v610 < ((a611.length : Nat) : Int)))
   (
    if 0 ≤ v610 ∧ v610 < (a611.length : Nat) then
      if v610.toNat < a611.length then
        cond (((List.getD a611 v610.toNat []).headD 0) != (IntKind.wrap .i8 v609))
         (
          k632)
         (
          let x616 : Int := IntKind.wrap .i64 (v609 + (1 : Int))
          if 0 ≤ v610 ∧ v610 < (a611.length : Nat) then
            if v610.toNat < a611.length then
              cond ((((List.getD a611 v610.toNat []).tail).headD 0) != (IntKind.wrap .i16 x616))
               (
                k632)
               (
                let x620 : Int := IntKind.wrap .i64 (x616 + (1 : Int))
                if 0 ≤ v610 ∧ v610 < (a611.length : Nat) then
                  if v610.toNat < a611.length then
                    cond ((((List.getD a611 v610.toNat []).tail.tail).headD 0) != (IntKind.wrap .i16 x620))
                     (
                      k632)
                     (
                      let x624 : Int := IntKind.wrap .i64 (x620 + (1 : Int))
                      if 0 ≤ v610 ∧ v610 < (a611.length : Nat) then
                        if v610.toNat < a611.length then
                          cond ((((List.getD a611 v610.toNat []).tail.tail.tail).headD 0) != x624)
                           (
                            k632)
                           (
                            let x627 : Int := IntKind.wrap .i64 (x624 + (1 : Int))
                            if 0 ≤ v610 ∧ v610 < (a611.length : Nat) then
                              if v610.toNat < a611.length then
                                cond ((((List.getD a611 v610.toNat []).tail.tail.tail.tail).headD 0) != x627)
                                 (
                                  k632)
                                 (
                                  r634 (IntKind.wrap .i64 (x627 + (1 : Int))) (IntKind.wrap .i64 (v610 + (1 : Int))))
                              else
                                none
                            else
                              none)
                        else
                          none
                      else
                        none)
                  else
                    none
                else
                  none)
            else
              none
          else
            none)
      else
        none
    else
      none)
   (
    k633 v609)
def g34v1l0 {α : Type}   (a611 : List (List Int)) (k632 : Option α) (k633 : Int → Option α) : Nat → Int → Int → Option α
  | 0 => fun _ _ => none
  | m + 1 => fun v609 v610 => g34v1l0b a611 k632 k633 (g34v1l0 a611 k632 k633 m) v609 v610
def g34v1l0M {α : Type} (m : Nat) : (List (List Int)) → (Option α) → (Int → Option α) → Int → Int → Option α :=
  fun a611 k632 k633 v609 v610 => g34v1l0 a611 k632 k633 m v609 v610
def g34v1l0D : LoopD := { n := 61, low := [0], sl := [0, 1, 5], bl := [0], tp := [(.vl (.sv (.gsl 0 5))), (.vl (.sv (.int .i64))), (.vl (.sv (.int .i64)))], bp := [(false, [(.gro (.rc [.i8, .i16, .i16, .i64, .i64]))])], xs := [(1, [4]), (2, [1])] }
def g34v1l0K {α : Type} (L : (List (List Int)) → (Option α) → (Int → Option α) → Int → Int → Option α) (ls : List Lf) (k : Ex → St → Option α) : Option α :=
  L ((lf ls 2).lst (.rc [.i8, .i16, .i16, .i64, .i64]))
    (k .ret (mkSt 61 [4] [(.vl (.sv (.int .i64 (-1 : Int))))] [0] [(false, [(.gro (.rc [.i8, .i16, .i16, .i64, .i64]) ((lf ls 2).lst (.rc [.i8, .i16, .i16, .i64, .i64])))])]))
    (fun y0 => k .normal (mkSt 61 [1] [(.vl (.sv (.int .i64 y0)))] [0] [(false, [(.gro (.rc [.i8, .i16, .i16, .i64, .i64]) ((lf ls 2).lst (.rc [.i8, .i16, .i16, .i64, .i64])))])]))
    (lf ls 0).int (lf ls 1).int
def g34v1b {α : Type}  (L_g34v1l0 : {α : Type} → (List (List Int)) → (Option α) → (Int → Option α) → Int → Int → Option α) (p607 : Int) (u608 : List (List Int)) (k636 : Int → Option α) : Option α :=
  L_g34v1l0 u608
    (
      k636 (-1 : Int))
    (fun x635 =>
      k636 x635)
    p607 (0 : Int)
def g34v1 {α : Type} (m : Nat) : Int → (List (List Int)) → (Int → Option α) → Option α :=
  g34v1b (g34v1l0M m)
def g34v1tp : List TP := [(.vl (.sv (.gsl 0 5))), (.vl (.sv (.int .i64)))]
def g34v1bp : List BP := [(false, [(.gro (.rc [.i8, .i16, .i16, .i64, .i64]))])]
def g34v1K {α : Type} (G : Int → (List (List Int)) → (Int → Option α) → Option α) (ls : List Lf) (k : TV → List (List Seg) → List (List Seg) → Option α) : Option α :=
  G (lf ls 0).int ((lf ls 1).lst (.rc [.i8, .i16, .i16, .i64, .i64]))
    (fun y0 => k (.vl (.sv (.int .i64 y0))) [[(.gro (.rc [.i8, .i16, .i16, .i64, .i64]) ((lf ls 1).lst (.rc [.i8, .i16, .i16, .i64, .i64])))]] [])
def g34v1hd  (L_g34v1l0 : {α : Type} → (List (List Int)) → (Option α) → (Int → Option α) → Int → Int → Option α) : Hd where
  call := fun f args Bs k => none
  loop := fun id st k => cond (Nat.beq id 0) (loopH g34v1l0D (g34v1l0K L_g34v1l0) st k) (none)
  ro := fun f => []
def g34v1h (m : Nat) : Hd := g34v1hd (g34v1l0M m)
theorem g34v1l0Step  (L_g34v1l0 : {α : Type} → (List (List Int)) → (Option α) → (Int → Option α) → Int → Int → Option α) {α : Type} (L : (List (List Int)) → (Option α) → (Int → Option α) → Int → Int → Option α) (ls : List Lf) (k : Ex → St → Option α) :
    g34v1l0K (fun a611 k632 k633 v609 v610 => g34v1l0b a611 k632 k633 (L a611 k632 k633) v609 v610) ls k = ev tab (g34v1hd L_g34v1l0) (bodyAt Go.Proofs.Try.f34 0) (atHead g34v1l0D ls) (loopK g34v1l0D 0 (loopH g34v1l0D (g34v1l0K L)) k) := by kernel_rfl
theorem g34v1Main  (L_g34v1l0 : {α : Type} → (List (List Int)) → (Option α) → (Int → Option α) → Int → Int → Option α) {α : Type} (ls : List Lf) (k : TV → List (List Seg) → List (List Seg) → Option α) :
    g34v1K (g34v1b L_g34v1l0) ls k = evFun tab (g34v1hd L_g34v1l0) Go.Proofs.Try.f34 (fillT g34v1tp ls).1 (fillB g34v1bp (fillT g34v1tp ls).2).1 k := by kernel_rfl
theorem g34v1Calls (m : Nat) : (g34v1h m).CallsOk Go.Proofs.Try.prog := cok_nil
theorem g34v1l0Ok (m : Nat) (α : Type) (st : St) (k : Ex → St → Option α) (r : α) (h : (g34v1h m).loop 0 st k = some r) :
    ∃ e st', k e st' = some r ∧ CodeS Go.Proofs.Try.prog (.block 0 (.loop (bodyAt Go.Proofs.Try.f34 0))) st e st' :=
  loop_ok (tab := tab) (h := g34v1h m) (F := fun n ls k => g34v1l0K (fun a611 k632 k633 v609 v610 => g34v1l0 a611 k632 k633 n v609 v610) ls k) tabOk (g34v1Calls m) mixed (loopsOk_of _ (fun p hp => by rw [show loopsOf (bodyAt Go.Proofs.Try.f34 0) = [] by kernel_rfl] at hp; cases hp))
    (fun _ _ => rfl) (fun n ls k => g34v1l0Step (g34v1l0M m) (fun a611 k632 k633 => g34v1l0 a611 k632 k633 n) ls k) (n := m) h
theorem g34v1Fn (m : Nat) : FnOk Go.Proofs.Try.prog 34 g34v1tp g34v1bp (fun {α} => g34v1K (g34v1 (α := α) m)) :=
  fn_ok (tab := tab) (h := g34v1h m) (fn := Go.Proofs.Try.f34) (F := fun {α} => g34v1K (g34v1 (α := α) m)) tabOk (g34v1Calls m) mixed (by kernel_rfl) (by kernel_rfl) (fun c hc => by
    rw [bodyOf_some hc]
    exact loopsOk_of _ (fun p hp => by
    rw [show loopsOf (bodyOf Go.Proofs.Try.f34) = [(0, bodyAt Go.Proofs.Try.f34 0)] by kernel_rfl] at hp
    simp only [List.mem_cons, List.not_mem_nil, or_false] at hp
    rcases hp with rfl
    exact g34v1l0Ok m))
    (fun α ls k => g34v1Main (g34v1l0M m) ls k)
theorem g34v1Ok (m : Nat) : RowOk Go.Proofs.Try.prog 34 (fun {α} => rowK g34v1tp g34v1bp (g34v1K (g34v1 (α := α) m))) := row_of (g34v1Fn m)

/-! ### g8: laws.FnExactJoinTerms -/
def g8b {α : Type} (G_g11 : {α : Type} → Nat → Nat → Nat → Int → Nat → (List (List Int)) → (Int → Option α) → Option α) (G_g13 : {α : Type} → Nat → Nat → Nat → Nat → (List (List Int)) → ((List (List Int)) → Option α) → Option α) (G_g32 : {α : Type} → Nat → Nat → Nat → Nat → Nat → Nat → Nat → (List (List Int)) → Nat → (List (List Int)) → (Int → (List (List Int)) → Option α) → Option α) (G_g33 : {α : Type} → Nat → Nat → Nat → Nat → Nat → Nat → Nat → (List (List Int)) → Nat → (List (List Int)) → (Int → Option α) → ((List (List Int)) → Option α) → Option α) (G_g15 : {α : Type} → (List (List Int)) → (Bool → Option α) → Option α) (G_g15v1 : {α : Type} → Nat → Nat → Nat → Nat → Nat → Nat → Nat → (List (List Int)) → Nat → (List (List Int)) → (Bool → Option α) → Option α) (G_g29 : {α : Type} → Nat → Nat → Nat → Int → Nat → (List (List Int)) → (Int → (List (List Int)) → Option α) → Option α) (G_g29v1 : {α : Type} → Int → (Option α) → Option α) (G_g34 : {α : Type} → Int → (Option α) → Option α) (G_g15v2 : {α : Type} → (List (List Int)) → (List (List Int)) → (Bool → Option α) → Option α) (G_g29v2 : {α : Type} → Int → (List (List Int)) → (Int → (List (List Int)) → Option α) → Option α) (G_g34v1 : {α : Type} → Int → (List (List Int)) → (Int → Option α) → Option α)  (m1 : Nat) (m2 : Nat) (m3 : Nat) (m4 : Nat) (m5 : Nat) (m6 : Nat) (m7 : Nat) (u8 : List (List Int)) (m9 : Nat) (u10 : List (List Int)) (k656 : Bool → Option α) : Option α :=
  G_g11 m1 m2 m3 (1048576 : Int) m7 u8
    (fun x20 =>
      cond (decide (x20 < (0 : Int)))
       (
        k656 true)
       (
        G_g11 m4 m5 m6 x20 m9 u10
          (fun x22 =>
            cond (decide (x22 < (0 : Int)))
             (
              k656 true)
             (
              G_g13 m1 m2 m3 m7 u8
                (fun l59 =>
                  G_g13 m4 m5 m6 m9 u10
                    (fun l60 =>
                      G_g32 0 m2 m2 0 m5 m5 m2 l59 m5 l60
                        (fun x244 l245 =>
                          G_g13 m1 m2 m3 m7 u8
                            (fun l246 =>
                              G_g13 m4 m5 m6 m9 u10
                                (fun l247 =>
                                  G_g33 0 m2 m2 0 m5 m5 m2 l246 m5 l247
                                    (fun x398 =>
                                      G_g15 l245
                                        (fun b407 =>
                                          cond (!b407)
                                           (
                                            k656 false)
                                           (
                                            cond (x398 != x244)
                                             (
                                              k656 false)
                                             (
                                              G_g13 m1 m2 m3 m7 u8
                                                (fun l410 =>
                                                  G_g15v1 0 m2 m2 0 m2 m2 m2 l246 m2 l410
                                                    (fun b467 =>
                                                      cond (!b467)
                                                       (
                                                        k656 false)
                                                       (
                                                        G_g13 m4 m5 m6 m9 u10
                                                          (fun l469 =>
                                                            G_g15v1 0 m5 m5 0 m5 m5 m5 l247 m5 l469
                                                              (fun b470 =>
                                                                cond (!b470)
                                                                 (
                                                                  k656 false)
                                                                 (
                                                                  G_g29 0 m2 m2 (1 : Int) m2 l246
                                                                    (fun x505 l506 =>
                                                                      G_g29 0 m5 m5 x505 m5 l247
                                                                        (fun x507 l508 =>
                                                                          cond (decide (x507 < (0 : Int)))
                                                                           (
                                                                            k656 false)
                                                                           (
                                                                            G_g15 l245
                                                                              (fun b510 =>
                                                                                cond (!b510)
                                                                                 (
                                                                                  k656 false)
                                                                                 (
                                                                                  cond (x398 != x244)
                                                                                   (
                                                                                    k656 false)
                                                                                   (
                                                                                    G_g29v1 (1 : Int)
                                                                                      (
                                                                                        G_g34 (1 : Int)
                                                                                          (
                                                                                            G_g13 m1 m2 m3 m7 u8
                                                                                              (fun l528 =>
                                                                                                G_g13 m4 m5 m6 m9 u10
                                                                                                  (fun l529 =>
                                                                                                    G_g33 0 m2 m2 0 m5 m5 m2 l528 m5 l529
                                                                                                      (fun x530 =>
                                                                                                        G_g15 l245
                                                                                                          (fun b531 =>
                                                                                                            cond (!b531)
                                                                                                             (
                                                                                                              k656 false)
                                                                                                             (
                                                                                                              cond (x530 != x244)
                                                                                                               (
                                                                                                                k656 false)
                                                                                                               (
                                                                                                                G_g34 (1 : Int)
                                                                                                                  (
                                                                                                                    k656 true)))))
                                                                                                      (fun l534 =>
                                                                                                        G_g15v2 l534 l245
                                                                                                          (fun b559 =>
                                                                                                            cond (!b559)
                                                                                                             (
                                                                                                              k656 false)
                                                                                                             (
                                                                                                              cond ((0 : Int) != x244)
                                                                                                               (
                                                                                                                k656 false)
                                                                                                               (
                                                                                                                G_g34 (1 : Int)
                                                                                                                  (
                                                                                                                    k656 true)))))))))))))))))))))))))
                                    (fun l562 =>
                                      G_g15v2 l562 l245
                                        (fun b563 =>
                                          cond (!b563)
                                           (
                                            k656 false)
                                           (
                                            cond ((0 : Int) != x244)
                                             (
                                              k656 false)
                                             (
                                              G_g13 m1 m2 m3 m7 u8
                                                (fun l566 =>
                                                  G_g15v1 0 m2 m2 0 m2 m2 m2 l246 m2 l566
                                                    (fun b567 =>
                                                      cond (!b567)
                                                       (
                                                        k656 false)
                                                       (
                                                        G_g13 m4 m5 m6 m9 u10
                                                          (fun l569 =>
                                                            G_g15v1 0 m5 m5 0 m5 m5 m5 l247 m5 l569
                                                              (fun b570 =>
                                                                cond (!b570)
                                                                 (
                                                                  k656 false)
                                                                 (
                                                                  G_g29 0 m2 m2 (1 : Int) m2 l246
                                                                    (fun x572 l573 =>
                                                                      G_g29 0 m5 m5 x572 m5 l247
                                                                        (fun x574 l575 =>
                                                                          cond (decide (x574 < (0 : Int)))
                                                                           (
                                                                            k656 false)
                                                                           (
                                                                            G_g15v2 l562 l245
                                                                              (fun b577 =>
                                                                                cond (!b577)
                                                                                 (
                                                                                  k656 false)
                                                                                 (
                                                                                  cond ((0 : Int) != x244)
                                                                                   (
                                                                                    k656 false)
                                                                                   (
                                                                                    G_g29v2 (1 : Int) l562
                                                                                      (fun x605 l606 =>
                                                                                        G_g34v1 (1 : Int) l606
                                                                                          (fun x637 =>
                                                                                            cond (decide (x637 < (0 : Int)))
                                                                                             (
                                                                                              k656 false)
                                                                                             (
                                                                                              cond (x637 != x605)
                                                                                               (
                                                                                                k656 false)
                                                                                               (
                                                                                                G_g13 m1 m2 m3 m7 u8
                                                                                                  (fun l640 =>
                                                                                                    G_g13 m4 m5 m6 m9 u10
                                                                                                      (fun l641 =>
                                                                                                        G_g33 0 m2 m2 0 m5 m5 m2 l640 m5 l641
                                                                                                          (fun x642 =>
                                                                                                            G_g15 l245
                                                                                                              (fun b643 =>
                                                                                                                cond (!b643)
                                                                                                                 (
                                                                                                                  k656 false)
                                                                                                                 (
                                                                                                                  cond (x642 != x244)
                                                                                                                   (
                                                                                                                    k656 false)
                                                                                                                   (
                                                                                                                    G_g34v1 (1 : Int) l606
                                                                                                                      (fun x646 =>
                                                                                                                        cond (decide (x646 < (0 : Int)))
                                                                                                                         (
                                                                                                                          k656 false)
                                                                                                                         (
                                                                                                                          cond (x646 != x605)
                                                                                                                           (
                                                                                                                            k656 false)
                                                                                                                           (
                                                                                                                            k656 true)))))))
                                                                                                          (fun l649 =>
                                                                                                            G_g15v2 l649 l245
                                                                                                              (fun b650 =>
                                                                                                                cond (!b650)
                                                                                                                 (
                                                                                                                  k656 false)
                                                                                                                 (
                                                                                                                  cond ((0 : Int) != x244)
                                                                                                                   (
                                                                                                                    k656 false)
                                                                                                                   (
                                                                                                                    G_g34v1 (1 : Int) l606
                                                                                                                      (fun x653 =>
                                                                                                                        cond (decide (x653 < (0 : Int)))
                                                                                                                         (
                                                                                                                          k656 false)
                                                                                                                         (
                                                                                                                          cond (x653 != x605)
                                                                                                                           (
                                                                                                                            k656 false)
                                                                                                                           (
                                                                                                                            k656 true))))))))))))))))))))))))))))))))))))))
def g8 {α : Type} (m : Nat) : Nat → Nat → Nat → Nat → Nat → Nat → Nat → (List (List Int)) → Nat → (List (List Int)) → (Bool → Option α) → Option α :=
  g8b (g11 m) (g13 m) (g32 m) (g33 m) (g15 m) (g15v1 m) (g29 m) (g29v1 m) (g34 m) (g15v2 m) (g29v2 m) (g34v1 m)
def g8tp : List TP := [(.vl (.sv (.sla 0 0 5))), (.vl (.sv (.sla 1 0 5)))]
def g8bp : List BP := [(false, [(.seqv (.rc [.i8, .i16, .i16, .i64, .i64]))]), (false, [(.seqv (.rc [.i8, .i16, .i16, .i64, .i64]))])]
def g8K {α : Type} (G : Nat → Nat → Nat → Nat → Nat → Nat → Nat → (List (List Int)) → Nat → (List (List Int)) → (Bool → Option α) → Option α) (ls : List Lf) (k : TV → List (List Seg) → List (List Seg) → Option α) : Option α :=
  G (lf ls 0).nat (lf ls 1).nat (lf ls 2).nat (lf ls 3).nat (lf ls 4).nat (lf ls 5).nat (lf ls 6).nat ((lf ls 7).lst (.rc [.i8, .i16, .i16, .i64, .i64])) (lf ls 8).nat ((lf ls 9).lst (.rc [.i8, .i16, .i16, .i64, .i64]))
    (fun y0 => k (.vl (.sv (.bool y0))) [[(.seq (.rc [.i8, .i16, .i16, .i64, .i64]) (lf ls 6).nat ((lf ls 7).lst (.rc [.i8, .i16, .i16, .i64, .i64])))], [(.seq (.rc [.i8, .i16, .i16, .i64, .i64]) (lf ls 8).nat ((lf ls 9).lst (.rc [.i8, .i16, .i16, .i64, .i64])))]] [])
def g8hd (G_g11 : {α : Type} → Nat → Nat → Nat → Int → Nat → (List (List Int)) → (Int → Option α) → Option α) (G_g13 : {α : Type} → Nat → Nat → Nat → Nat → (List (List Int)) → ((List (List Int)) → Option α) → Option α) (G_g32 : {α : Type} → Nat → Nat → Nat → Nat → Nat → Nat → Nat → (List (List Int)) → Nat → (List (List Int)) → (Int → (List (List Int)) → Option α) → Option α) (G_g33 : {α : Type} → Nat → Nat → Nat → Nat → Nat → Nat → Nat → (List (List Int)) → Nat → (List (List Int)) → (Int → Option α) → ((List (List Int)) → Option α) → Option α) (G_g15 : {α : Type} → (List (List Int)) → (Bool → Option α) → Option α) (G_g15v1 : {α : Type} → Nat → Nat → Nat → Nat → Nat → Nat → Nat → (List (List Int)) → Nat → (List (List Int)) → (Bool → Option α) → Option α) (G_g29 : {α : Type} → Nat → Nat → Nat → Int → Nat → (List (List Int)) → (Int → (List (List Int)) → Option α) → Option α) (G_g29v1 : {α : Type} → Int → (Option α) → Option α) (G_g34 : {α : Type} → Int → (Option α) → Option α) (G_g15v2 : {α : Type} → (List (List Int)) → (List (List Int)) → (Bool → Option α) → Option α) (G_g29v2 : {α : Type} → Int → (List (List Int)) → (Int → (List (List Int)) → Option α) → Option α) (G_g34v1 : {α : Type} → Int → (List (List Int)) → (Int → Option α) → Option α)  : Hd where
  call := fun f args Bs k => cond (Nat.beq f 11) (rowK g11tp g11bp (g11K G_g11) args Bs k) (cond (Nat.beq f 13) (rowK g13tp g13bp (g13K G_g13) args Bs k) (cond (Nat.beq f 32) (rowK g32tp g32bp (g32K G_g32) args Bs k) (cond (Nat.beq f 33) (rowK g33tp g33bp (g33K G_g33) args Bs k) (cond (Nat.beq f 15) (rowE g15tp g15bp (g15K G_g15) (rowE g15v1tp g15v1bp (g15v1K G_g15v1) (rowK g15v2tp g15v2bp (g15v2K G_g15v2))) args Bs k) (cond (Nat.beq f 29) (rowE g29tp g29bp (g29K G_g29) (rowE g29v1tp g29v1bp (g29v1K G_g29v1) (rowK g29v2tp g29v2bp (g29v2K G_g29v2))) args Bs k) (cond (Nat.beq f 34) (rowE g34tp g34bp (g34K G_g34) (rowK g34v1tp g34v1bp (g34v1K G_g34v1)) args Bs k) (none)))))))
  loop := fun id st k => none
  ro := fun f => cond (Nat.beq f 11) [0] (cond (Nat.beq f 13) [0] (cond (Nat.beq f 15) [0, 1] (cond (Nat.beq f 32) [0, 1] (cond (Nat.beq f 33) [0, 1] (cond (Nat.beq f 34) [0] ([]))))))
def g8h (m : Nat) : Hd := g8hd (g11 m) (g13 m) (g32 m) (g33 m) (g15 m) (g15v1 m) (g29 m) (g29v1 m) (g34 m) (g15v2 m) (g29v2 m) (g34v1 m)
theorem g8Main (G_g11 : {α : Type} → Nat → Nat → Nat → Int → Nat → (List (List Int)) → (Int → Option α) → Option α) (G_g13 : {α : Type} → Nat → Nat → Nat → Nat → (List (List Int)) → ((List (List Int)) → Option α) → Option α) (G_g32 : {α : Type} → Nat → Nat → Nat → Nat → Nat → Nat → Nat → (List (List Int)) → Nat → (List (List Int)) → (Int → (List (List Int)) → Option α) → Option α) (G_g33 : {α : Type} → Nat → Nat → Nat → Nat → Nat → Nat → Nat → (List (List Int)) → Nat → (List (List Int)) → (Int → Option α) → ((List (List Int)) → Option α) → Option α) (G_g15 : {α : Type} → (List (List Int)) → (Bool → Option α) → Option α) (G_g15v1 : {α : Type} → Nat → Nat → Nat → Nat → Nat → Nat → Nat → (List (List Int)) → Nat → (List (List Int)) → (Bool → Option α) → Option α) (G_g29 : {α : Type} → Nat → Nat → Nat → Int → Nat → (List (List Int)) → (Int → (List (List Int)) → Option α) → Option α) (G_g29v1 : {α : Type} → Int → (Option α) → Option α) (G_g34 : {α : Type} → Int → (Option α) → Option α) (G_g15v2 : {α : Type} → (List (List Int)) → (List (List Int)) → (Bool → Option α) → Option α) (G_g29v2 : {α : Type} → Int → (List (List Int)) → (Int → (List (List Int)) → Option α) → Option α) (G_g34v1 : {α : Type} → Int → (List (List Int)) → (Int → Option α) → Option α)  {α : Type} (ls : List Lf) (k : TV → List (List Seg) → List (List Seg) → Option α) :
    g8K (g8b G_g11 G_g13 G_g32 G_g33 G_g15 G_g15v1 G_g29 G_g29v1 G_g34 G_g15v2 G_g29v2 G_g34v1) ls k = evFun tab (g8hd G_g11 G_g13 G_g32 G_g33 G_g15 G_g15v1 G_g29 G_g29v1 G_g34 G_g15v2 G_g29v2 G_g34v1) Go.Proofs.Try.f8 (fillT g8tp ls).1 (fillB g8bp (fillT g8tp ls).2).1 k := by kernel_rfl
theorem g8Calls (m : Nat) : (g8h m).CallsOk Go.Proofs.Try.prog := (cok_cons (g11Ok m) (cok_cons (g13Ok m) (cok_cons (g32Ok m) (cok_cons (g33Ok m) (cok_cons (row_else (g15Ok m) (row_else (g15v1Ok m) (g15v2Ok m))) (cok_cons (row_else (g29Ok m) (row_else (g29v1Ok m) (g29v2Ok m))) (cok_cons (row_else (g34Ok m) (g34v1Ok m)) cok_nil)))))))
theorem g8Fn (m : Nat) : FnOk Go.Proofs.Try.prog 8 g8tp g8bp (fun {α} => g8K (g8 (α := α) m)) :=
  fn_ok (tab := tab) (h := g8h m) (fn := Go.Proofs.Try.f8) (F := fun {α} => g8K (g8 (α := α) m)) tabOk (g8Calls m) mixed (by kernel_rfl) (by kernel_rfl) (fun c hc => by
    rw [bodyOf_some hc]
    exact loopsOk_of _ (fun p hp => by rw [show loopsOf (bodyOf Go.Proofs.Try.f8) = [] by kernel_rfl] at hp; cases hp))
    (fun α ls k => g8Main (g11 m) (g13 m) (g32 m) (g33 m) (g15 m) (g15v1 m) (g29 m) (g29v1 m) (g34 m) (g15v2 m) (g29v2 m) (g34v1 m) ls k)
theorem g8Ok (m : Nat) : RowOk Go.Proofs.Try.prog 8 (fun {α} => rowK g8tp g8bp (g8K (g8 (α := α) m))) := row_of (g8Fn m)

/-! ### g75v1: spec.l02Moved -/
def g75v1b {α : Type} (G_g95 : {α : Type} → Int → (Bool → Option α) → Option α) (G_g96 : {α : Type} → Int → (Bool → Option α) → Option α)  (p691 : Int) (p692 : Int) (p693 : Int) (p694 : Int) (p695 : Int) (m696 : Nat) (m697 : Nat) (m698 : Nat) (m699 : Nat) (u700 : List Int) (k716 : Int → Int → Option α) : Option α :=
  G_g95 p691
    (fun b701 =>
      cond b701
       (
        if 0 ≤ p692 ∧ p692 < (m697 : Nat) then
          if (m696 + p692.toNat) < m699 then
            let x703 : Int := IntKind.wrap .i16 (List.getD u700 (m696 + p692.toNat) 0)
            G_g96 p691
              (fun b704 =>
                cond b704
                 (
                  if 0 ≤ p693 ∧ p693 < (m697 : Nat) then
                    if (m696 + p693.toNat) < m699 then
                      k716 x703 (IntKind.wrap .i16 (List.getD u700 (m696 + p693.toNat) 0))
                    else
                      none
                  else
                    none)
                 (
                  k716 x703 p693))
          else
            none
        else
          none)
       (
        G_g96 p691
          (fun b707 =>
            cond b707
             (
              if 0 ≤ p692 ∧ p692 < (m697 : Nat) then
                if (m696 + p692.toNat) < m699 then
                  let x709 : Int := IntKind.wrap .i16 (List.getD u700 (m696 + p692.toNat) 0)
                  G_g96 p691
                    (fun b710 =>
                      cond b710
                       (
                        if 0 ≤ p693 ∧ p693 < (m697 : Nat) then
                          if (m696 + p693.toNat) < m699 then
                            k716 x709 (IntKind.wrap .i16 (List.getD u700 (m696 + p693.toNat) 0))
                          else
                            none
                        else
                          none)
                       (
                        k716 x709 p693))
                else
                  none
              else
                none)
             (
              G_g96 p691
                (fun b713 =>
                  cond b713
                   (
                    if 0 ≤ p693 ∧ p693 < (m697 : Nat) then
                      if (m696 + p693.toNat) < m699 then
                        k716 p692 (IntKind.wrap .i16 (List.getD u700 (m696 + p693.toNat) 0))
                      else
                        none
                    else
                      none)
                   (
                    k716 p692 p693))))))
def g75v1 {α : Type} (m : Nat) : Int → Int → Int → Int → Int → Nat → Nat → Nat → Nat → (List Int) → (Int → Int → Option α) → Option α :=
  g75v1b (g95 m) (g96 m)
def g75v1tp : List TP := [(.vl (.agg [(.one (.int .i8)), (.one (.int .i16)), (.one (.int .i16)), (.one (.int .i64)), (.one (.int .i64))])), (.vl (.sv (.slc 0 0 1)))]
def g75v1bp : List BP := [(false, [(.seqv (.int .i64))])]
def g75v1K {α : Type} (G : Int → Int → Int → Int → Int → Nat → Nat → Nat → Nat → (List Int) → (Int → Int → Option α) → Option α) (ls : List Lf) (k : TV → List (List Seg) → List (List Seg) → Option α) : Option α :=
  G (lf ls 0).int (lf ls 1).int (lf ls 2).int (lf ls 3).int (lf ls 4).int (lf ls 5).nat (lf ls 6).nat (lf ls 7).nat (lf ls 8).nat ((lf ls 9).lst (.int .i64))
    (fun y1 y2 => k (.vl (.agg [(.one (.int .i8 (lf ls 0).int)), (.one (.int .i16 y1)), (.one (.int .i16 y2)), (.one (.int .i64 (lf ls 3).int)), (.one (.int .i64 (lf ls 4).int))])) [[(.seq (.int .i64) (lf ls 8).nat ((lf ls 9).lst (.int .i64)))]] [])
def g75v1hd (G_g95 : {α : Type} → Int → (Bool → Option α) → Option α) (G_g96 : {α : Type} → Int → (Bool → Option α) → Option α)  : Hd where
  call := fun f args Bs k => cond (Nat.beq f 95) (rowK g95tp g95bp (g95K G_g95) args Bs k) (cond (Nat.beq f 96) (rowK g96tp g96bp (g96K G_g96) args Bs k) (none))
  loop := fun id st k => none
  ro := fun f => []
def g75v1h (m : Nat) : Hd := g75v1hd (g95 m) (g96 m)
theorem g75v1Main (G_g95 : {α : Type} → Int → (Bool → Option α) → Option α) (G_g96 : {α : Type} → Int → (Bool → Option α) → Option α)  {α : Type} (ls : List Lf) (k : TV → List (List Seg) → List (List Seg) → Option α) :
    g75v1K (g75v1b G_g95 G_g96) ls k = evFun tab (g75v1hd G_g95 G_g96) Go.Proofs.Try.f75 (fillT g75v1tp ls).1 (fillB g75v1bp (fillT g75v1tp ls).2).1 k := by kernel_rfl
theorem g75v1Calls (m : Nat) : (g75v1h m).CallsOk Go.Proofs.Try.prog := (cok_cons (g95Ok m) (cok_cons (g96Ok m) cok_nil))
theorem g75v1Fn (m : Nat) : FnOk Go.Proofs.Try.prog 75 g75v1tp g75v1bp (fun {α} => g75v1K (g75v1 (α := α) m)) :=
  fn_ok (tab := tab) (h := g75v1h m) (fn := Go.Proofs.Try.f75) (F := fun {α} => g75v1K (g75v1 (α := α) m)) tabOk (g75v1Calls m) mixed (by kernel_rfl) (by kernel_rfl) (fun c hc => by
    rw [bodyOf_some hc]
    exact loopsOk_of _ (fun p hp => by rw [show loopsOf (bodyOf Go.Proofs.Try.f75) = [] by kernel_rfl] at hp; cases hp))
    (fun α ls k => g75v1Main (g95 m) (g96 m) ls k)
theorem g75v1Ok (m : Nat) : RowOk Go.Proofs.Try.prog 75 (fun {α} => rowK g75v1tp g75v1bp (g75v1K (g75v1 (α := α) m))) := row_of (g75v1Fn m)
end Go.Proofs.Ytobejeiffgehfaa.Sx
