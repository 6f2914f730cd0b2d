/- Functions. Printed by our own sx.py. -/
import Derived.Test.YtobejeiffgehfaaSxT
namespace Go.Proofs.Ytobejeiffgehfaa.Sx
open Go
set_option linter.unusedVariables false
set_option maxRecDepth 100000
/-! ### g11: laws.szNodeS -/
def g11b {α : Type}   (m11 : Nat) (m12 : Nat) (m13 : Nat) (p14 : Int) (m15 : Nat) (u16 : List (List Int)) (k19 : Int → Option α) : Option α :=
  let x17 : Int := IntKind.wrap .i64 (p14 - ((m12 : Nat) : Int))
  cond (decide (x17 < (0 : Int)))
   (
    k19 (-1 : Int))
   (
    k19 x17)
def g11 {α : Type} (m : Nat) : Nat → Nat → Nat → Int → Nat → (List (List Int)) → (Int → Option α) → Option α :=
  g11b
def g11tp : List TP := [(.vl (.sv (.slc 0 0 5))), (.vl (.sv (.int .i64)))]
def g11bp : List BP := [(false, [(.seqv (.rc [.i8, .i16, .i16, .i64, .i64]))])]
def g11K {α : Type} (G : Nat → Nat → Nat → Int → Nat → (List (List Int)) → (Int → Option α) → Option α) (ls : List Lf) (k : TV → List (List Seg) → List (List Seg) → Option α) : Option α :=
  G (lf ls 0).nat (lf ls 1).nat (lf ls 2).nat (lf ls 3).int (lf ls 4).nat ((lf ls 5).lst (.rc [.i8, .i16, .i16, .i64, .i64]))
    (fun y0 => k (.vl (.sv (.int .i64 y0))) [[(.seq (.rc [.i8, .i16, .i16, .i64, .i64]) (lf ls 4).nat ((lf ls 5).lst (.rc [.i8, .i16, .i16, .i64, .i64])))]] [])
def g11hd   : Hd where
  call := fun f args Bs k => none
  loop := fun id st k => none
  ro := fun f => []
def g11h (m : Nat) : Hd := g11hd
theorem g11Main   {α : Type} (ls : List Lf) (k : TV → List (List Seg) → List (List Seg) → Option α) :
    g11K (g11b) ls k = evFun tab (g11hd) Go.Proofs.Try.f11 (fillT g11tp ls).1 (fillB g11bp (fillT g11tp ls).2).1 k := by kernel_rfl
theorem g11Calls (m : Nat) : (g11h m).CallsOk Go.Proofs.Try.prog := cok_nil
theorem g11Fn (m : Nat) : FnOk Go.Proofs.Try.prog 11 g11tp g11bp (fun {α} => g11K (g11 (α := α) m)) :=
  fn_ok (tab := tab) (h := g11h m) (fn := Go.Proofs.Try.f11) (F := fun {α} => g11K (g11 (α := α) m)) tabOk (g11Calls m) mixed (by kernel_rfl) (by kernel_rfl) (fun c hc => by
    rw [bodyOf_some hc]
    exact loopsOk_of _ (fun p hp => by rw [show loopsOf (bodyOf Go.Proofs.Try.f11) = [] by kernel_rfl] at hp; cases hp))
    (fun α ls k => g11Main ls k)
theorem g11Ok (m : Nat) : RowOk Go.Proofs.Try.prog 11 (fun {α} => rowK g11tp g11bp (g11K (g11 (α := α) m))) := row_of (g11Fn m)

/-! ### g39: laws.toNode -/
def g39b {α : Type}   (p47 : Int) (p48 : Int) (p49 : Int) (p50 : Int) (p51 : Int) (k52 : Option α) : Option α :=
  k52
def g39 {α : Type} (m : Nat) : Int → Int → Int → Int → Int → (Option α) → Option α :=
  g39b
def g39tp : List TP := [(.vl (.agg [(.one (.int .i8)), (.one (.int .i16)), (.one (.int .i16)), (.one (.int .i64)), (.one (.int .i64))]))]
def g39bp : List BP := []
def g39K {α : Type} (G : Int → Int → Int → Int → Int → (Option α) → Option α) (ls : List Lf) (k : TV → List (List Seg) → List (List Seg) → Option α) : Option α :=
  G (lf ls 0).int (lf ls 1).int (lf ls 2).int (lf ls 3).int (lf ls 4).int
    (k (.vl (.agg [(.one (.int .i8 (lf ls 0).int)), (.one (.int .i16 (lf ls 1).int)), (.one (.int .i16 (lf ls 2).int)), (.one (.int .i64 (lf ls 3).int)), (.one (.int .i64 (lf ls 4).int))])) [] [])
def g39hd   : Hd where
  call := fun f args Bs k => none
  loop := fun id st k => none
  ro := fun f => []
def g39h (m : Nat) : Hd := g39hd
theorem g39Main   {α : Type} (ls : List Lf) (k : TV → List (List Seg) → List (List Seg) → Option α) :
    g39K (g39b) ls k = evFun tab (g39hd) Go.Proofs.Try.f39 (fillT g39tp ls).1 (fillB g39bp (fillT g39tp ls).2).1 k := by kernel_rfl
theorem g39Calls (m : Nat) : (g39h m).CallsOk Go.Proofs.Try.prog := cok_nil
theorem g39Fn (m : Nat) : FnOk Go.Proofs.Try.prog 39 g39tp g39bp (fun {α} => g39K (g39 (α := α) m)) :=
  fn_ok (tab := tab) (h := g39h m) (fn := Go.Proofs.Try.f39) (F := fun {α} => g39K (g39 (α := α) m)) tabOk (g39Calls m) mixed (by kernel_rfl) (by kernel_rfl) (fun c hc => by
    rw [bodyOf_some hc]
    exact loopsOk_of _ (fun p hp => by rw [show loopsOf (bodyOf Go.Proofs.Try.f39) = [] by kernel_rfl] at hp; cases hp))
    (fun α ls k => g39Main ls k)
theorem g39Ok (m : Nat) : RowOk Go.Proofs.Try.prog 39 (fun {α} => rowK g39tp g39bp (g39K (g39 (α := α) m))) := row_of (g39Fn m)

/-! ### g13: laws.toNodeS -/
def g13l0b {α : Type} (G_g39 : {α : Type} → Int → Int → Int → Int → Int → (Option α) → Option α)  (m30 : Nat) (m31 : Nat) (m32 : Nat) (m33 : Nat) (m34 : Nat) (m35 : Nat) (m37 : Nat) (a38 : List (List Int)) (m39 : Nat) (k55 : (List (List Int)) → Option α) (r56 : Int → (List (List Int)) → Option α) (v36 : Int) (a40 : List (List Int)) : Option α :=
  cond (decide (v36 < ((m31 : Nat) : Int)))
   (
    if 0 ≤ v36 ∧ v36 < (m31 : Nat) then
      if (m30 + v36.toNat) < m37 then
        let x42 : Int := (List.getD a38 (m30 + v36.toNat) []).headD 0
        let x43 : Int := (List.getD a38 (m30 + v36.toNat) []).tail.headD 0
        let x44 : Int := (List.getD a38 (m30 + v36.toNat) []).tail.tail.headD 0
        let x45 : Int := (List.getD a38 (m30 + v36.toNat) []).tail.tail.tail.headD 0
        let x46 : Int := (List.getD a38 (m30 + v36.toNat) []).tail.tail.tail.tail.headD 0
        G_g39 x42 x43 x44 x45 x46
          (
            if 0 ≤ v36 ∧ v36 < (m34 : Nat) then
              if (m33 + v36.toNat) < m39 then
                r56 (IntKind.wrap .i64 (v36 + (1 : Int))) (List.set a40 (m33 + v36.toNat) [x42, x43, x44, x45, x46])
              else
                none
            else
              none)
      else
        none
    else
      none)
   (
    k55 a40)
def g13l0 {α : Type} (G_g39 : {α : Type} → Int → Int → Int → Int → Int → (Option α) → Option α)  (m30 : Nat) (m31 : Nat) (m32 : Nat) (m33 : Nat) (m34 : Nat) (m35 : Nat) (m37 : Nat) (a38 : List (List Int)) (m39 : Nat) (k55 : (List (List Int)) → Option α) : Nat → Int → (List (List Int)) → Option α
  | 0 => fun _ _ => none
  | m + 1 => fun v36 a40 => g13l0b G_g39 m30 m31 m32 m33 m34 m35 m37 a38 m39 k55 (g13l0 G_g39 m30 m31 m32 m33 m34 m35 m37 a38 m39 k55 m) v36 a40
def g13l0M {α : Type} (m : Nat) : Nat → Nat → Nat → Nat → Nat → Nat → Nat → (List (List Int)) → Nat → ((List (List Int)) → Option α) → Int → (List (List Int)) → Option α :=
  fun m30 m31 m32 m33 m34 m35 m37 a38 m39 k55 v36 a40 => g13l0 (g39 m) m30 m31 m32 m33 m34 m35 m37 a38 m39 k55 m v36 a40
def g13l0D : LoopD := { n := 23, sl := [0, 3, 4], bl := [0, 1007], tp := [(.vl (.sv (.slc 0 0 5))), (.vl (.sv (.slc 1007 0 5))), (.vl (.sv (.int .i64)))], bp := [(false, [(.seqv (.rc [.i8, .i16, .i16, .i64, .i64]))]), (true, [(.seqv (.rc [.i8, .i16, .i16, .i64, .i64]))])], xs := [(2, [3], [0, 1007])] }
def g13l0K {α : Type} (L : Nat → Nat → Nat → Nat → Nat → Nat → Nat → (List (List Int)) → Nat → ((List (List Int)) → Option α) → Int → (List (List Int)) → Option α) (ls : List Lf) (k : Ex → St → Option α) : Option α :=
  L (lf ls 0).nat (lf ls 1).nat (lf ls 2).nat (lf ls 3).nat (lf ls 4).nat (lf ls 5).nat (lf ls 7).nat ((lf ls 8).lst (.rc [.i8, .i16, .i16, .i64, .i64])) (lf ls 9).nat
    (fun y6 => k .normal (mkSt 23 [3] [(.vl (.sv (.slc 1007 0 5 (lf ls 3).nat (lf ls 4).nat (lf ls 5).nat)))] [0, 1007] [(false, [(.seq (.rc [.i8, .i16, .i16, .i64, .i64]) (lf ls 7).nat ((lf ls 8).lst (.rc [.i8, .i16, .i16, .i64, .i64])))]), (true, [(.seq (.rc [.i8, .i16, .i16, .i64, .i64]) (lf ls 9).nat y6)])]))
    (lf ls 6).int ((lf ls 10).lst (.rc [.i8, .i16, .i16, .i64, .i64]))
def g13b {α : Type} (G_g39 : {α : Type} → Int → Int → Int → Int → Int → (Option α) → Option α) (L_g13l0 : {α : Type} → Nat → Nat → Nat → Nat → Nat → Nat → Nat → (List (List Int)) → Nat → ((List (List Int)) → Option α) → Int → (List (List Int)) → Option α) (m24 : Nat) (m25 : Nat) (m26 : Nat) (m27 : Nat) (u28 : List (List Int)) (k58 : (List (List Int)) → Option α) : Option α :=
  if ((m25 : Nat) : Int) = ((m25 : Nat) : Int) ∧ 0 ≤ ((m25 : Nat) : Int) ∧ ((m25 : Nat) : Int) ≤ 1048576 then
    L_g13l0 m24 m25 m26 0 m25 m25 m27 u28 m25
      (fun l57 =>
        k58 l57)
      (0 : Int) (List.replicate m25 ([] : List Int))
  else
    none
def g13 {α : Type} (m : Nat) : Nat → Nat → Nat → Nat → (List (List Int)) → ((List (List Int)) → Option α) → Option α :=
  g13b (g39 m) (g13l0M m)
def g13tp : List TP := [(.vl (.sv (.slc 0 0 5)))]
def g13bp : List BP := [(false, [(.seqv (.rc [.i8, .i16, .i16, .i64, .i64]))])]
def g13K {α : Type} (G : Nat → Nat → Nat → Nat → (List (List Int)) → ((List (List Int)) → Option α) → Option α) (ls : List Lf) (k : TV → List (List Seg) → List (List Seg) → Option α) : Option α :=
  G (lf ls 0).nat (lf ls 1).nat (lf ls 2).nat (lf ls 3).nat ((lf ls 4).lst (.rc [.i8, .i16, .i16, .i64, .i64]))
    (fun y6 => k (.vl (.sv (.slc 1 0 5 0 (lf ls 1).nat (lf ls 1).nat))) [[(.seq (.rc [.i8, .i16, .i16, .i64, .i64]) (lf ls 3).nat ((lf ls 4).lst (.rc [.i8, .i16, .i16, .i64, .i64])))]] [[(.seq (.rc [.i8, .i16, .i16, .i64, .i64]) (lf ls 1).nat y6)]])
def g13hd (G_g39 : {α : Type} → Int → Int → Int → Int → Int → (Option α) → Option α) (L_g13l0 : {α : Type} → Nat → Nat → Nat → Nat → Nat → Nat → Nat → (List (List Int)) → Nat → ((List (List Int)) → Option α) → Int → (List (List Int)) → Option α) : Hd where
  call := fun f args Bs k => cond (Nat.beq f 39) (rowK g39tp g39bp (g39K G_g39) args Bs k) (none)
  loop := fun id st k => cond (Nat.beq id 0) (loopH g13l0D (g13l0K L_g13l0) st k) (none)
  ro := fun f => []
def g13h (m : Nat) : Hd := g13hd (g39 m) (g13l0M m)
theorem g13l0Step (G_g39 : {α : Type} → Int → Int → Int → Int → Int → (Option α) → Option α) (L_g13l0 : {α : Type} → Nat → Nat → Nat → Nat → Nat → Nat → Nat → (List (List Int)) → Nat → ((List (List Int)) → Option α) → Int → (List (List Int)) → Option α) {α : Type} (L : Nat → Nat → Nat → Nat → Nat → Nat → Nat → (List (List Int)) → Nat → ((List (List Int)) → Option α) → Int → (List (List Int)) → Option α) (ls : List Lf) (k : Ex → St → Option α) :
    g13l0K (fun m30 m31 m32 m33 m34 m35 m37 a38 m39 k55 v36 a40 => g13l0b G_g39 m30 m31 m32 m33 m34 m35 m37 a38 m39 k55 (L m30 m31 m32 m33 m34 m35 m37 a38 m39 k55) v36 a40) ls k = ev tab (g13hd G_g39 L_g13l0) (bodyAt Go.Proofs.Try.f13 0) (atHead g13l0D ls) (loopK g13l0D 0 (loopH g13l0D (g13l0K L)) k) := by kernel_rfl
theorem g13Main (G_g39 : {α : Type} → Int → Int → Int → Int → Int → (Option α) → Option α) (L_g13l0 : {α : Type} → Nat → Nat → Nat → Nat → Nat → Nat → Nat → (List (List Int)) → Nat → ((List (List Int)) → Option α) → Int → (List (List Int)) → Option α) {α : Type} (ls : List Lf) (k : TV → List (List Seg) → List (List Seg) → Option α) :
    g13K (g13b G_g39 L_g13l0) ls k = evFun tab (g13hd G_g39 L_g13l0) Go.Proofs.Try.f13 (fillT g13tp ls).1 (fillB g13bp (fillT g13tp ls).2).1 k := by kernel_rfl
theorem g13Calls (m : Nat) : (g13h m).CallsOk Go.Proofs.Try.prog := (cok_cons (g39Ok m) cok_nil)
theorem g13l0Ok (m : Nat) (α : Type) (st : St) (k : Ex → St → Option α) (r : α) (h : (g13h m).loop 0 st k = some r) :
    ∃ e st', k e st' = some r ∧ CodeS Go.Proofs.Try.prog (.block 0 (.loop (bodyAt Go.Proofs.Try.f13 0))) st e st' :=
  loop_ok (tab := tab) (h := g13h m) (F := fun n ls k => g13l0K (fun m30 m31 m32 m33 m34 m35 m37 a38 m39 k55 v36 a40 => g13l0 (g39 m) m30 m31 m32 m33 m34 m35 m37 a38 m39 k55 n v36 a40) ls k) tabOk (g13Calls m) mixed (loopsOk_of _ (fun p hp => by rw [show loopsOf (bodyAt Go.Proofs.Try.f13 0) = [] by kernel_rfl] at hp; cases hp))
    (fun _ _ => rfl) (fun n ls k => g13l0Step (g39 m) (g13l0M m) (fun m30 m31 m32 m33 m34 m35 m37 a38 m39 k55 => g13l0 (g39 m) m30 m31 m32 m33 m34 m35 m37 a38 m39 k55 n) ls k) (n := m) h
theorem g13Fn (m : Nat) : FnOk Go.Proofs.Try.prog 13 g13tp g13bp (fun {α} => g13K (g13 (α := α) m)) :=
  fn_ok (tab := tab) (h := g13h m) (fn := Go.Proofs.Try.f13) (F := fun {α} => g13K (g13 (α := α) m)) tabOk (g13Calls m) mixed (by kernel_rfl) (by kernel_rfl) (fun c hc => by
    rw [bodyOf_some hc]
    exact loopsOk_of _ (fun p hp => by
    rw [show loopsOf (bodyOf Go.Proofs.Try.f13) = [(0, bodyAt Go.Proofs.Try.f13 0)] by kernel_rfl] at hp
    simp only [List.mem_cons, List.not_mem_nil, or_false] at hp
    rcases hp with rfl
    exact g13l0Ok m))
    (fun α ls k => g13Main (g39 m) (g13l0M m) ls k)
theorem g13Ok (m : Nat) : RowOk Go.Proofs.Try.prog 13 (fun {α} => rowK g13tp g13bp (g13K (g13 (α := α) m))) := row_of (g13Fn m)

/-! ### g12: spec.SameTerm -/
def g12l0b {α : Type}   (m72 : Nat) (m73 : Nat) (m74 : Nat) (m75 : Nat) (m76 : Nat) (m77 : Nat) (m79 : Nat) (a80 : List (List Int)) (m81 : Nat) (a82 : List (List Int)) (k96 : Option α) (k97 : Option α) (r98 : Int → Option α) (v78 : Int) : Option α :=
  cond (decide (v78 < ((m73 : Nat) : Int)))
   (
    if 0 ≤ v78 ∧ v78 < (m73 : Nat) then
      if (m72 + v78.toNat) < m79 then
        if 0 ≤ v78 ∧ v78 < (m76 : Nat) then
          if (m75 + v78.toNat) < m81 then
            cond (!((((List.getD a80 (m72 + v78.toNat) []).headD 0) == ((List.getD a82 (m75 + v78.toNat) []).headD 0)) && ((((List.getD a80 (m72 + v78.toNat) []).tail.headD 0) == ((List.getD a82 (m75 + v78.toNat) []).tail.headD 0)) && ((((List.getD a80 (m72 + v78.toNat) []).tail.tail.headD 0) == ((List.getD a82 (m75 + v78.toNat) []).tail.tail.headD 0)) && ((((List.getD a80 (m72 + v78.toNat) []).tail.tail.tail.headD 0) == ((List.getD a82 (m75 + v78.toNat) []).tail.tail.tail.headD 0)) && (((List.getD a80 (m72 + v78.toNat) []).tail.tail.tail.tail.headD 0) == ((List.getD a82 (m75 + v78.toNat) []).tail.tail.tail.tail.headD 0)))))))
             (
              k96)
             (
              r98 (IntKind.wrap .i64 (v78 + (1 : Int))))
          else
            none
        else
          none
      else
        none
    else
      none)
   (
    k97)
def g12l0 {α : Type}   (m72 : Nat) (m73 : Nat) (m74 : Nat) (m75 : Nat) (m76 : Nat) (m77 : Nat) (m79 : Nat) (a80 : List (List Int)) (m81 : Nat) (a82 : List (List Int)) (k96 : Option α) (k97 : Option α) : Nat → Int → Option α
  | 0 => fun _ => none
  | m + 1 => fun v78 => g12l0b m72 m73 m74 m75 m76 m77 m79 a80 m81 a82 k96 k97 (g12l0 m72 m73 m74 m75 m76 m77 m79 a80 m81 a82 k96 k97 m) v78
def g12l0M {α : Type} (m : Nat) : Nat → Nat → Nat → Nat → Nat → Nat → Nat → (List (List Int)) → Nat → (List (List Int)) → (Option α) → (Option α) → Int → Option α :=
  fun m72 m73 m74 m75 m76 m77 m79 a80 m81 a82 k96 k97 v78 => g12l0 m72 m73 m74 m75 m76 m77 m79 a80 m81 a82 k96 k97 m v78
def g12l0D : LoopD := { n := 26, sl := [0, 1, 5], bl := [0, 1], tp := [(.vl (.sv (.slc 0 0 5))), (.vl (.sv (.slc 1 0 5))), (.vl (.sv (.int .i64)))], bp := [(false, [(.seqv (.rc [.i8, .i16, .i16, .i64, .i64]))]), (false, [(.seqv (.rc [.i8, .i16, .i16, .i64, .i64]))])], xs := [(1, [4], [0, 1]), (2, [], [0, 1])] }
def g12l0K {α : Type} (L : Nat → Nat → Nat → Nat → Nat → Nat → Nat → (List (List Int)) → Nat → (List (List Int)) → (Option α) → (Option α) → Int → Option α) (ls : List Lf) (k : Ex → St → Option α) : Option α :=
  L (lf ls 0).nat (lf ls 1).nat (lf ls 2).nat (lf ls 3).nat (lf ls 4).nat (lf ls 5).nat (lf ls 7).nat ((lf ls 8).lst (.rc [.i8, .i16, .i16, .i64, .i64])) (lf ls 9).nat ((lf ls 10).lst (.rc [.i8, .i16, .i16, .i64, .i64]))
    (k .ret (mkSt 26 [4] [(.vl (.sv (.bool false)))] [0, 1] [(false, [(.seq (.rc [.i8, .i16, .i16, .i64, .i64]) (lf ls 7).nat ((lf ls 8).lst (.rc [.i8, .i16, .i16, .i64, .i64])))]), (false, [(.seq (.rc [.i8, .i16, .i16, .i64, .i64]) (lf ls 9).nat ((lf ls 10).lst (.rc [.i8, .i16, .i16, .i64, .i64])))])]))
    (k .normal (mkSt 26 [] [] [0, 1] [(false, [(.seq (.rc [.i8, .i16, .i16, .i64, .i64]) (lf ls 7).nat ((lf ls 8).lst (.rc [.i8, .i16, .i16, .i64, .i64])))]), (false, [(.seq (.rc [.i8, .i16, .i16, .i64, .i64]) (lf ls 9).nat ((lf ls 10).lst (.rc [.i8, .i16, .i16, .i64, .i64])))])]))
    (lf ls 6).int
def g12b {α : Type}  (L_g12l0 : {α : Type} → Nat → Nat → Nat → Nat → Nat → Nat → Nat → (List (List Int)) → Nat → (List (List Int)) → (Option α) → (Option α) → Int → Option α) (m61 : Nat) (m62 : Nat) (m63 : Nat) (m64 : Nat) (m65 : Nat) (m66 : Nat) (m67 : Nat) (u68 : List (List Int)) (m69 : Nat) (u70 : List (List Int)) (k99 : Bool → Option α) : Option α :=
  cond (((m62 : Nat) : Int) != ((m65 : Nat) : Int))
   (
    k99 false)
   (
    L_g12l0 m61 m62 m63 m64 m65 m66 m67 u68 m69 u70
      (
        k99 false)
      (
        k99 true)
      (0 : Int))
def g12 {α : Type} (m : Nat) : Nat → Nat → Nat → Nat → Nat → Nat → Nat → (List (List Int)) → Nat → (List (List Int)) → (Bool → Option α) → Option α :=
  g12b (g12l0M m)
def g12tp : List TP := [(.vl (.sv (.slc 0 0 5))), (.vl (.sv (.slc 1 0 5)))]
def g12bp : List BP := [(false, [(.seqv (.rc [.i8, .i16, .i16, .i64, .i64]))]), (false, [(.seqv (.rc [.i8, .i16, .i16, .i64, .i64]))])]
def g12K {α : Type} (G : Nat → Nat → Nat → Nat → Nat → Nat → Nat → (List (List Int)) → Nat → (List (List Int)) → (Bool → Option α) → Option α) (ls : List Lf) (k : TV → List (List Seg) → List (List Seg) → Option α) : Option α :=
  G (lf ls 0).nat (lf ls 1).nat (lf ls 2).nat (lf ls 3).nat (lf ls 4).nat (lf ls 5).nat (lf ls 6).nat ((lf ls 7).lst (.rc [.i8, .i16, .i16, .i64, .i64])) (lf ls 8).nat ((lf ls 9).lst (.rc [.i8, .i16, .i16, .i64, .i64]))
    (fun y0 => k (.vl (.sv (.bool y0))) [[(.seq (.rc [.i8, .i16, .i16, .i64, .i64]) (lf ls 6).nat ((lf ls 7).lst (.rc [.i8, .i16, .i16, .i64, .i64])))], [(.seq (.rc [.i8, .i16, .i16, .i64, .i64]) (lf ls 8).nat ((lf ls 9).lst (.rc [.i8, .i16, .i16, .i64, .i64])))]] [])
def g12hd  (L_g12l0 : {α : Type} → Nat → Nat → Nat → Nat → Nat → Nat → Nat → (List (List Int)) → Nat → (List (List Int)) → (Option α) → (Option α) → Int → Option α) : Hd where
  call := fun f args Bs k => none
  loop := fun id st k => cond (Nat.beq id 0) (loopH g12l0D (g12l0K L_g12l0) st k) (none)
  ro := fun f => []
def g12h (m : Nat) : Hd := g12hd (g12l0M m)
theorem g12l0Step  (L_g12l0 : {α : Type} → Nat → Nat → Nat → Nat → Nat → Nat → Nat → (List (List Int)) → Nat → (List (List Int)) → (Option α) → (Option α) → Int → Option α) {α : Type} (L : Nat → Nat → Nat → Nat → Nat → Nat → Nat → (List (List Int)) → Nat → (List (List Int)) → (Option α) → (Option α) → Int → Option α) (ls : List Lf) (k : Ex → St → Option α) :
    g12l0K (fun m72 m73 m74 m75 m76 m77 m79 a80 m81 a82 k96 k97 v78 => g12l0b m72 m73 m74 m75 m76 m77 m79 a80 m81 a82 k96 k97 (L m72 m73 m74 m75 m76 m77 m79 a80 m81 a82 k96 k97) v78) ls k = ev tab (g12hd L_g12l0) (bodyAt Go.Proofs.Try.f12 0) (atHead g12l0D ls) (loopK g12l0D 0 (loopH g12l0D (g12l0K L)) k) := by kernel_rfl
theorem g12Main  (L_g12l0 : {α : Type} → Nat → Nat → Nat → Nat → Nat → Nat → Nat → (List (List Int)) → Nat → (List (List Int)) → (Option α) → (Option α) → Int → Option α) {α : Type} (ls : List Lf) (k : TV → List (List Seg) → List (List Seg) → Option α) :
    g12K (g12b L_g12l0) ls k = evFun tab (g12hd L_g12l0) Go.Proofs.Try.f12 (fillT g12tp ls).1 (fillB g12bp (fillT g12tp ls).2).1 k := by kernel_rfl
theorem g12Calls (m : Nat) : (g12h m).CallsOk Go.Proofs.Try.prog := cok_nil
theorem g12l0Ok (m : Nat) (α : Type) (st : St) (k : Ex → St → Option α) (r : α) (h : (g12h m).loop 0 st k = some r) :
    ∃ e st', k e st' = some r ∧ CodeS Go.Proofs.Try.prog (.block 0 (.loop (bodyAt Go.Proofs.Try.f12 0))) st e st' :=
  loop_ok (tab := tab) (h := g12h m) (F := fun n ls k => g12l0K (fun m72 m73 m74 m75 m76 m77 m79 a80 m81 a82 k96 k97 v78 => g12l0 m72 m73 m74 m75 m76 m77 m79 a80 m81 a82 k96 k97 n v78) ls k) tabOk (g12Calls m) mixed (loopsOk_of _ (fun p hp => by rw [show loopsOf (bodyAt Go.Proofs.Try.f12 0) = [] by kernel_rfl] at hp; cases hp))
    (fun _ _ => rfl) (fun n ls k => g12l0Step (g12l0M m) (fun m72 m73 m74 m75 m76 m77 m79 a80 m81 a82 k96 k97 => g12l0 m72 m73 m74 m75 m76 m77 m79 a80 m81 a82 k96 k97 n) ls k) (n := m) h
theorem g12Fn (m : Nat) : FnOk Go.Proofs.Try.prog 12 g12tp g12bp (fun {α} => g12K (g12 (α := α) m)) :=
  fn_ok (tab := tab) (h := g12h m) (fn := Go.Proofs.Try.f12) (F := fun {α} => g12K (g12 (α := α) m)) tabOk (g12Calls m) mixed (by kernel_rfl) (by kernel_rfl) (fun c hc => by
    rw [bodyOf_some hc]
    exact loopsOk_of _ (fun p hp => by
    rw [show loopsOf (bodyOf Go.Proofs.Try.f12) = [(0, bodyAt Go.Proofs.Try.f12 0)] by kernel_rfl] at hp
    simp only [List.mem_cons, List.not_mem_nil, or_false] at hp
    rcases hp with rfl
    exact g12l0Ok m))
    (fun α ls k => g12Main (g12l0M m) ls k)
theorem g12Ok (m : Nat) : RowOk Go.Proofs.Try.prog 12 (fun {α} => rowK g12tp g12bp (g12K (g12 (α := α) m))) := row_of (g12Fn m)

/-! ### g40: slices.Equal[[]impl.Node,impl.Node] -/
def g40l0b {α : Type}   (m124 : Nat) (m125 : Nat) (m126 : Nat) (m127 : Nat) (m128 : Nat) (m129 : Nat) (v130 : Int) (m132 : Nat) (a133 : List (List Int)) (m134 : Nat) (a135 : List (List Int)) (k149 : Option α) (k150 : Option α) (r151 : Int → Option α) (v131 : Int) : Option α :=
  cond (decide (v131 < v130))
   (
    if 0 ≤ v131 ∧ v131 < (m125 : Nat) then
      if (m124 + v131.toNat) < m132 then
        if 0 ≤ v131 ∧ v131 < (m128 : Nat) then
          if (m127 + v131.toNat) < m134 then
            cond (!((((List.getD a133 (m124 + v131.toNat) []).headD 0) == ((List.getD a135 (m127 + v131.toNat) []).headD 0)) && ((((List.getD a133 (m124 + v131.toNat) []).tail.headD 0) == ((List.getD a135 (m127 + v131.toNat) []).tail.headD 0)) && ((((List.getD a133 (m124 + v131.toNat) []).tail.tail.headD 0) == ((List.getD a135 (m127 + v131.toNat) []).tail.tail.headD 0)) && ((((List.getD a133 (m124 + v131.toNat) []).tail.tail.tail.headD 0) == ((List.getD a135 (m127 + v131.toNat) []).tail.tail.tail.headD 0)) && (((List.getD a133 (m124 + v131.toNat) []).tail.tail.tail.tail.headD 0) == ((List.getD a135 (m127 + v131.toNat) []).tail.tail.tail.tail.headD 0)))))))
             (
              k149)
             (
              r151 (IntKind.wrap .i64 (v131 + (1 : Int))))
          else
            none
        else
          none
      else
        none
    else
      none)
   (
    k150)
def g40l0 {α : Type}   (m124 : Nat) (m125 : Nat) (m126 : Nat) (m127 : Nat) (m128 : Nat) (m129 : Nat) (v130 : Int) (m132 : Nat) (a133 : List (List Int)) (m134 : Nat) (a135 : List (List Int)) (k149 : Option α) (k150 : Option α) : Nat → Int → Option α
  | 0 => fun _ => none
  | m + 1 => fun v131 => g40l0b m124 m125 m126 m127 m128 m129 v130 m132 a133 m134 a135 k149 k150 (g40l0 m124 m125 m126 m127 m128 m129 v130 m132 a133 m134 a135 k149 k150 m) v131
def g40l0M {α : Type} (m : Nat) : Nat → Nat → Nat → Nat → Nat → Nat → Int → Nat → (List (List Int)) → Nat → (List (List Int)) → (Option α) → (Option α) → Int → Option α :=
  fun m124 m125 m126 m127 m128 m129 v130 m132 a133 m134 a135 k149 k150 v131 => g40l0 m124 m125 m126 m127 m128 m129 v130 m132 a133 m134 a135 k149 k150 m v131
def g40l0D : LoopD := { n := 26, sl := [0, 1, 12, 13], bl := [0, 1], tp := [(.vl (.sv (.slc 0 0 5))), (.vl (.sv (.slc 1 0 5))), (.vl (.sv (.int .i64))), (.vl (.sv (.int .i64)))], bp := [(false, [(.seqv (.rc [.i8, .i16, .i16, .i64, .i64]))]), (false, [(.seqv (.rc [.i8, .i16, .i16, .i64, .i64]))])], xs := [(1, [4], [0, 1]), (2, [], [0, 1])] }
def g40l0K {α : Type} (L : Nat → Nat → Nat → Nat → Nat → Nat → Int → Nat → (List (List Int)) → Nat → (List (List Int)) → (Option α) → (Option α) → Int → Option α) (ls : List Lf) (k : Ex → St → Option α) : Option α :=
  L (lf ls 0).nat (lf ls 1).nat (lf ls 2).nat (lf ls 3).nat (lf ls 4).nat (lf ls 5).nat (lf ls 6).int (lf ls 8).nat ((lf ls 9).lst (.rc [.i8, .i16, .i16, .i64, .i64])) (lf ls 10).nat ((lf ls 11).lst (.rc [.i8, .i16, .i16, .i64, .i64]))
    (k .ret (mkSt 26 [4] [(.vl (.sv (.bool false)))] [0, 1] [(false, [(.seq (.rc [.i8, .i16, .i16, .i64, .i64]) (lf ls 8).nat ((lf ls 9).lst (.rc [.i8, .i16, .i16, .i64, .i64])))]), (false, [(.seq (.rc [.i8, .i16, .i16, .i64, .i64]) (lf ls 10).nat ((lf ls 11).lst (.rc [.i8, .i16, .i16, .i64, .i64])))])]))
    (k .normal (mkSt 26 [] [] [0, 1] [(false, [(.seq (.rc [.i8, .i16, .i16, .i64, .i64]) (lf ls 8).nat ((lf ls 9).lst (.rc [.i8, .i16, .i16, .i64, .i64])))]), (false, [(.seq (.rc [.i8, .i16, .i16, .i64, .i64]) (lf ls 10).nat ((lf ls 11).lst (.rc [.i8, .i16, .i16, .i64, .i64])))])]))
    (lf ls 7).int
def g40b {α : Type}  (L_g40l0 : {α : Type} → Nat → Nat → Nat → Nat → Nat → Nat → Int → Nat → (List (List Int)) → Nat → (List (List Int)) → (Option α) → (Option α) → Int → Option α) (m113 : Nat) (m114 : Nat) (m115 : Nat) (m116 : Nat) (m117 : Nat) (m118 : Nat) (m119 : Nat) (u120 : List (List Int)) (m121 : Nat) (u122 : List (List Int)) (k152 : Bool → Option α) : Option α :=
  cond (((m114 : Nat) : Int) != ((m117 : Nat) : Int))
   (
    k152 false)
   (
    L_g40l0 m113 m114 m115 m116 m117 m118 ((m114 : Nat) : Int) m119 u120 m121 u122
      (
        k152 false)
      (
        k152 true)
      (0 : Int))
def g40 {α : Type} (m : Nat) : Nat → Nat → Nat → Nat → Nat → Nat → Nat → (List (List Int)) → Nat → (List (List Int)) → (Bool → Option α) → Option α :=
  g40b (g40l0M m)
def g40tp : List TP := [(.vl (.sv (.slc 0 0 5))), (.vl (.sv (.slc 1 0 5)))]
def g40bp : List BP := [(false, [(.seqv (.rc [.i8, .i16, .i16, .i64, .i64]))]), (false, [(.seqv (.rc [.i8, .i16, .i16, .i64, .i64]))])]
def g40K {α : Type} (G : Nat → Nat → Nat → Nat → Nat → Nat → Nat → (List (List Int)) → Nat → (List (List Int)) → (Bool → Option α) → Option α) (ls : List Lf) (k : TV → List (List Seg) → List (List Seg) → Option α) : Option α :=
  G (lf ls 0).nat (lf ls 1).nat (lf ls 2).nat (lf ls 3).nat (lf ls 4).nat (lf ls 5).nat (lf ls 6).nat ((lf ls 7).lst (.rc [.i8, .i16, .i16, .i64, .i64])) (lf ls 8).nat ((lf ls 9).lst (.rc [.i8, .i16, .i16, .i64, .i64]))
    (fun y0 => k (.vl (.sv (.bool y0))) [[(.seq (.rc [.i8, .i16, .i16, .i64, .i64]) (lf ls 6).nat ((lf ls 7).lst (.rc [.i8, .i16, .i16, .i64, .i64])))], [(.seq (.rc [.i8, .i16, .i16, .i64, .i64]) (lf ls 8).nat ((lf ls 9).lst (.rc [.i8, .i16, .i16, .i64, .i64])))]] [])
def g40hd  (L_g40l0 : {α : Type} → Nat → Nat → Nat → Nat → Nat → Nat → Int → Nat → (List (List Int)) → Nat → (List (List Int)) → (Option α) → (Option α) → Int → Option α) : Hd where
  call := fun f args Bs k => none
  loop := fun id st k => cond (Nat.beq id 0) (loopH g40l0D (g40l0K L_g40l0) st k) (none)
  ro := fun f => []
def g40h (m : Nat) : Hd := g40hd (g40l0M m)
theorem g40l0Step  (L_g40l0 : {α : Type} → Nat → Nat → Nat → Nat → Nat → Nat → Int → Nat → (List (List Int)) → Nat → (List (List Int)) → (Option α) → (Option α) → Int → Option α) {α : Type} (L : Nat → Nat → Nat → Nat → Nat → Nat → Int → Nat → (List (List Int)) → Nat → (List (List Int)) → (Option α) → (Option α) → Int → Option α) (ls : List Lf) (k : Ex → St → Option α) :
    g40l0K (fun m124 m125 m126 m127 m128 m129 v130 m132 a133 m134 a135 k149 k150 v131 => g40l0b m124 m125 m126 m127 m128 m129 v130 m132 a133 m134 a135 k149 k150 (L m124 m125 m126 m127 m128 m129 v130 m132 a133 m134 a135 k149 k150) v131) ls k = ev tab (g40hd L_g40l0) (bodyAt Go.Proofs.Try.f40 0) (atHead g40l0D ls) (loopK g40l0D 0 (loopH g40l0D (g40l0K L)) k) := by kernel_rfl
theorem g40Main  (L_g40l0 : {α : Type} → Nat → Nat → Nat → Nat → Nat → Nat → Int → Nat → (List (List Int)) → Nat → (List (List Int)) → (Option α) → (Option α) → Int → Option α) {α : Type} (ls : List Lf) (k : TV → List (List Seg) → List (List Seg) → Option α) :
    g40K (g40b L_g40l0) ls k = evFun tab (g40hd L_g40l0) Go.Proofs.Try.f40 (fillT g40tp ls).1 (fillB g40bp (fillT g40tp ls).2).1 k := by kernel_rfl
theorem g40Calls (m : Nat) : (g40h m).CallsOk Go.Proofs.Try.prog := cok_nil
theorem g40l0Ok (m : Nat) (α : Type) (st : St) (k : Ex → St → Option α) (r : α) (h : (g40h m).loop 0 st k = some r) :
    ∃ e st', k e st' = some r ∧ CodeS Go.Proofs.Try.prog (.block 0 (.loop (bodyAt Go.Proofs.Try.f40 0))) st e st' :=
  loop_ok (tab := tab) (h := g40h m) (F := fun n ls k => g40l0K (fun m124 m125 m126 m127 m128 m129 v130 m132 a133 m134 a135 k149 k150 v131 => g40l0 m124 m125 m126 m127 m128 m129 v130 m132 a133 m134 a135 k149 k150 n v131) ls k) tabOk (g40Calls m) mixed (loopsOk_of _ (fun p hp => by rw [show loopsOf (bodyAt Go.Proofs.Try.f40 0) = [] by kernel_rfl] at hp; cases hp))
    (fun _ _ => rfl) (fun n ls k => g40l0Step (g40l0M m) (fun m124 m125 m126 m127 m128 m129 v130 m132 a133 m134 a135 k149 k150 => g40l0 m124 m125 m126 m127 m128 m129 v130 m132 a133 m134 a135 k149 k150 n) ls k) (n := m) h
theorem g40Fn (m : Nat) : FnOk Go.Proofs.Try.prog 40 g40tp g40bp (fun {α} => g40K (g40 (α := α) m)) :=
  fn_ok (tab := tab) (h := g40h m) (fn := Go.Proofs.Try.f40) (F := fun {α} => g40K (g40 (α := α) m)) tabOk (g40Calls m) mixed (by kernel_rfl) (by kernel_rfl) (fun c hc => by
    rw [bodyOf_some hc]
    exact loopsOk_of _ (fun p hp => by
    rw [show loopsOf (bodyOf Go.Proofs.Try.f40) = [(0, bodyAt Go.Proofs.Try.f40 0)] by kernel_rfl] at hp
    simp only [List.mem_cons, List.not_mem_nil, or_false] at hp
    rcases hp with rfl
    exact g40l0Ok m))
    (fun α ls k => g40Main (g40l0M m) ls k)
theorem g40Ok (m : Nat) : RowOk Go.Proofs.Try.prog 40 (fun {α} => rowK g40tp g40bp (g40K (g40 (α := α) m))) := row_of (g40Fn m)

/-! ### g14: impl.SameTerm -/
def g14b {α : Type} (G_g40 : {α : Type} → Nat → Nat → Nat → Nat → Nat → Nat → Nat → (List (List Int)) → Nat → (List (List Int)) → (Bool → Option α) → Option α)  (m103 : Nat) (m104 : Nat) (m105 : Nat) (m106 : Nat) (m107 : Nat) (m108 : Nat) (m109 : Nat) (u110 : List (List Int)) (m111 : Nat) (u112 : List (List Int)) (k154 : Bool → Option α) : Option α :=
  G_g40 m103 m104 m105 m106 m107 m108 m109 u110 m111 u112
    (fun b153 =>
      k154 b153)
def g14 {α : Type} (m : Nat) : Nat → Nat → Nat → Nat → Nat → Nat → Nat → (List (List Int)) → Nat → (List (List Int)) → (Bool → Option α) → Option α :=
  g14b (g40 m)
def g14tp : List TP := [(.vl (.sv (.slc 0 0 5))), (.vl (.sv (.slc 1 0 5)))]
def g14bp : List BP := [(false, [(.seqv (.rc [.i8, .i16, .i16, .i64, .i64]))]), (false, [(.seqv (.rc [.i8, .i16, .i16, .i64, .i64]))])]
def g14K {α : Type} (G : Nat → Nat → Nat → Nat → Nat → Nat → Nat → (List (List Int)) → Nat → (List (List Int)) → (Bool → Option α) → Option α) (ls : List Lf) (k : TV → List (List Seg) → List (List Seg) → Option α) : Option α :=
  G (lf ls 0).nat (lf ls 1).nat (lf ls 2).nat (lf ls 3).nat (lf ls 4).nat (lf ls 5).nat (lf ls 6).nat ((lf ls 7).lst (.rc [.i8, .i16, .i16, .i64, .i64])) (lf ls 8).nat ((lf ls 9).lst (.rc [.i8, .i16, .i16, .i64, .i64]))
    (fun y0 => k (.vl (.sv (.bool y0))) [[(.seq (.rc [.i8, .i16, .i16, .i64, .i64]) (lf ls 6).nat ((lf ls 7).lst (.rc [.i8, .i16, .i16, .i64, .i64])))], [(.seq (.rc [.i8, .i16, .i16, .i64, .i64]) (lf ls 8).nat ((lf ls 9).lst (.rc [.i8, .i16, .i16, .i64, .i64])))]] [])
def g14hd (G_g40 : {α : Type} → Nat → Nat → Nat → Nat → Nat → Nat → Nat → (List (List Int)) → Nat → (List (List Int)) → (Bool → Option α) → Option α)  : Hd where
  call := fun f args Bs k => cond (Nat.beq f 40) (rowK g40tp g40bp (g40K G_g40) args Bs k) (none)
  loop := fun id st k => none
  ro := fun f => cond (Nat.beq f 40) [0, 1] ([])
def g14h (m : Nat) : Hd := g14hd (g40 m)
theorem g14Main (G_g40 : {α : Type} → Nat → Nat → Nat → Nat → Nat → Nat → Nat → (List (List Int)) → Nat → (List (List Int)) → (Bool → Option α) → Option α)  {α : Type} (ls : List Lf) (k : TV → List (List Seg) → List (List Seg) → Option α) :
    g14K (g14b G_g40) ls k = evFun tab (g14hd G_g40) Go.Proofs.Try.f14 (fillT g14tp ls).1 (fillB g14bp (fillT g14tp ls).2).1 k := by kernel_rfl
theorem g14Calls (m : Nat) : (g14h m).CallsOk Go.Proofs.Try.prog := (cok_cons (g40Ok m) cok_nil)
theorem g14Fn (m : Nat) : FnOk Go.Proofs.Try.prog 14 g14tp g14bp (fun {α} => g14K (g14 (α := α) m)) :=
  fn_ok (tab := tab) (h := g14h m) (fn := Go.Proofs.Try.f14) (F := fun {α} => g14K (g14 (α := α) m)) tabOk (g14Calls m) mixed (by kernel_rfl) (by kernel_rfl) (fun c hc => by
    rw [bodyOf_some hc]
    exact loopsOk_of _ (fun p hp => by rw [show loopsOf (bodyOf Go.Proofs.Try.f14) = [] by kernel_rfl] at hp; cases hp))
    (fun α ls k => g14Main (g40 m) ls k)
theorem g14Ok (m : Nat) : RowOk Go.Proofs.Try.prog 14 (fun {α} => rowK g14tp g14bp (g14K (g14 (α := α) m))) := row_of (g14Fn m)

/-! ### g41: laws.eqNode -/
def g41b {α : Type}   (p191 : Int) (p192 : Int) (p193 : Int) (p194 : Int) (p195 : Int) (p196 : Int) (p197 : Int) (p198 : Int) (p199 : Int) (p200 : Int) (k206 : Bool → Option α) : Option α :=
  cond (p191 != p196)
   (
    k206 false)
   (
    cond (p192 != p197)
     (
      k206 false)
     (
      cond (p193 != p198)
       (
        k206 false)
       (
        cond (p194 != p199)
         (
          k206 false)
         (
          cond (p195 != p200)
           (
            k206 false)
           (
            k206 true)))))
def g41 {α : Type} (m : Nat) : Int → Int → Int → Int → Int → Int → Int → Int → Int → Int → (Bool → Option α) → Option α :=
  g41b
def g41tp : List TP := [(.vl (.agg [(.one (.int .i8)), (.one (.int .i16)), (.one (.int .i16)), (.one (.int .i64)), (.one (.int .i64))])), (.vl (.agg [(.one (.int .i8)), (.one (.int .i16)), (.one (.int .i16)), (.one (.int .i64)), (.one (.int .i64))]))]
def g41bp : List BP := []
def g41K {α : Type} (G : Int → Int → Int → Int → Int → Int → Int → Int → Int → Int → (Bool → Option α) → Option α) (ls : List Lf) (k : TV → List (List Seg) → List (List Seg) → Option α) : Option α :=
  G (lf ls 0).int (lf ls 1).int (lf ls 2).int (lf ls 3).int (lf ls 4).int (lf ls 5).int (lf ls 6).int (lf ls 7).int (lf ls 8).int (lf ls 9).int
    (fun y0 => k (.vl (.sv (.bool y0))) [] [])
def g41hd   : Hd where
  call := fun f args Bs k => none
  loop := fun id st k => none
  ro := fun f => []
def g41h (m : Nat) : Hd := g41hd
theorem g41Main   {α : Type} (ls : List Lf) (k : TV → List (List Seg) → List (List Seg) → Option α) :
    g41K (g41b) ls k = evFun tab (g41hd) Go.Proofs.Try.f41 (fillT g41tp ls).1 (fillB g41bp (fillT g41tp ls).2).1 k := by kernel_rfl
theorem g41Calls (m : Nat) : (g41h m).CallsOk Go.Proofs.Try.prog := cok_nil
theorem g41Fn (m : Nat) : FnOk Go.Proofs.Try.prog 41 g41tp g41bp (fun {α} => g41K (g41 (α := α) m)) :=
  fn_ok (tab := tab) (h := g41h m) (fn := Go.Proofs.Try.f41) (F := fun {α} => g41K (g41 (α := α) m)) tabOk (g41Calls m) mixed (by kernel_rfl) (by kernel_rfl) (fun c hc => by
    rw [bodyOf_some hc]
    exact loopsOk_of _ (fun p hp => by rw [show loopsOf (bodyOf Go.Proofs.Try.f41) = [] by kernel_rfl] at hp; cases hp))
    (fun α ls k => g41Main ls k)
theorem g41Ok (m : Nat) : RowOk Go.Proofs.Try.prog 41 (fun {α} => rowK g41tp g41bp (g41K (g41 (α := α) m))) := row_of (g41Fn m)

/-! ### g15: laws.eqNodeS -/
def g15l0b {α : Type} (G_g41 : {α : Type} → Int → Int → Int → Int → Int → Int → Int → Int → Int → Int → (Bool → Option α) → Option α)  (m169 : Nat) (m170 : Nat) (m171 : Nat) (m172 : Nat) (m173 : Nat) (m174 : Nat) (m176 : Nat) (a177 : List (List Int)) (m178 : Nat) (a179 : List (List Int)) (k210 : Option α) (k211 : Option α) (r212 : Int → Option α) (v175 : Int) : Option α :=
  cond (decide (v175 < ((m170 : Nat) : Int)))
   (
    if 0 ≤ v175 ∧ v175 < (m170 : Nat) then
      if (m169 + v175.toNat) < m176 then
        if 0 ≤ v175 ∧ v175 < (m173 : Nat) then
          if (m172 + v175.toNat) < m178 then
            G_g41 ((List.getD a177 (m169 + v175.toNat) []).headD 0) ((List.getD a177 (m169 + v175.toNat) []).tail.headD 0) ((List.getD a177 (m169 + v175.toNat) []).tail.tail.headD 0) ((List.getD a177 (m169 + v175.toNat) []).tail.tail.tail.headD 0) ((List.getD a177 (m169 + v175.toNat) []).tail.tail.tail.tail.headD 0) ((List.getD a179 (m172 + v175.toNat) []).headD 0) ((List.getD a179 (m172 + v175.toNat) []).tail.headD 0) ((List.getD a179 (m172 + v175.toNat) []).tail.tail.headD 0) ((List.getD a179 (m172 + v175.toNat) []).tail.tail.tail.headD 0) ((List.getD a179 (m172 + v175.toNat) []).tail.tail.tail.tail.headD 0)
              (fun b207 =>
                cond (!b207)
                 (
                  k210)
                 (
                  r212 (IntKind.wrap .i64 (v175 + (1 : Int)))))
          else
            none
        else
          none
      else
        none
    else
      none)
   (
    k211)
def g15l0 {α : Type} (G_g41 : {α : Type} → Int → Int → Int → Int → Int → Int → Int → Int → Int → Int → (Bool → Option α) → Option α)  (m169 : Nat) (m170 : Nat) (m171 : Nat) (m172 : Nat) (m173 : Nat) (m174 : Nat) (m176 : Nat) (a177 : List (List Int)) (m178 : Nat) (a179 : List (List Int)) (k210 : Option α) (k211 : Option α) : Nat → Int → Option α
  | 0 => fun _ => none
  | m + 1 => fun v175 => g15l0b G_g41 m169 m170 m171 m172 m173 m174 m176 a177 m178 a179 k210 k211 (g15l0 G_g41 m169 m170 m171 m172 m173 m174 m176 a177 m178 a179 k210 k211 m) v175
def g15l0M {α : Type} (m : Nat) : Nat → Nat → Nat → Nat → Nat → Nat → Nat → (List (List Int)) → Nat → (List (List Int)) → (Option α) → (Option α) → Int → Option α :=
  fun m169 m170 m171 m172 m173 m174 m176 a177 m178 a179 k210 k211 v175 => g15l0 (g41 m) m169 m170 m171 m172 m173 m174 m176 a177 m178 a179 k210 k211 m v175
def g15l0D : LoopD := { n := 27, sl := [0, 1, 5], bl := [0, 1], tp := [(.vl (.sv (.slc 0 0 5))), (.vl (.sv (.slc 1 0 5))), (.vl (.sv (.int .i64)))], bp := [(false, [(.seqv (.rc [.i8, .i16, .i16, .i64, .i64]))]), (false, [(.seqv (.rc [.i8, .i16, .i16, .i64, .i64]))])], xs := [(1, [4], [0, 1]), (2, [], [0, 1])] }
def g15l0K {α : Type} (L : Nat → Nat → Nat → Nat → Nat → Nat → Nat → (List (List Int)) → Nat → (List (List Int)) → (Option α) → (Option α) → Int → Option α) (ls : List Lf) (k : Ex → St → Option α) : Option α :=
  L (lf ls 0).nat (lf ls 1).nat (lf ls 2).nat (lf ls 3).nat (lf ls 4).nat (lf ls 5).nat (lf ls 7).nat ((lf ls 8).lst (.rc [.i8, .i16, .i16, .i64, .i64])) (lf ls 9).nat ((lf ls 10).lst (.rc [.i8, .i16, .i16, .i64, .i64]))
    (k .ret (mkSt 27 [4] [(.vl (.sv (.bool false)))] [0, 1] [(false, [(.seq (.rc [.i8, .i16, .i16, .i64, .i64]) (lf ls 7).nat ((lf ls 8).lst (.rc [.i8, .i16, .i16, .i64, .i64])))]), (false, [(.seq (.rc [.i8, .i16, .i16, .i64, .i64]) (lf ls 9).nat ((lf ls 10).lst (.rc [.i8, .i16, .i16, .i64, .i64])))])]))
    (k .normal (mkSt 27 [] [] [0, 1] [(false, [(.seq (.rc [.i8, .i16, .i16, .i64, .i64]) (lf ls 7).nat ((lf ls 8).lst (.rc [.i8, .i16, .i16, .i64, .i64])))]), (false, [(.seq (.rc [.i8, .i16, .i16, .i64, .i64]) (lf ls 9).nat ((lf ls 10).lst (.rc [.i8, .i16, .i16, .i64, .i64])))])]))
    (lf ls 6).int
def g15b {α : Type} (G_g41 : {α : Type} → Int → Int → Int → Int → Int → Int → Int → Int → Int → Int → (Bool → Option α) → Option α) (L_g15l0 : {α : Type} → Nat → Nat → Nat → Nat → Nat → Nat → Nat → (List (List Int)) → Nat → (List (List Int)) → (Option α) → (Option α) → Int → Option α) (m158 : Nat) (m159 : Nat) (m160 : Nat) (m161 : Nat) (m162 : Nat) (m163 : Nat) (m164 : Nat) (u165 : List (List Int)) (m166 : Nat) (u167 : List (List Int)) (k213 : Bool → Option α) : Option α :=
  cond (((m159 : Nat) : Int) != ((m162 : Nat) : Int))
   (
    k213 false)
   (
    L_g15l0 m158 m159 m160 m161 m162 m163 m164 u165 m166 u167
      (
        k213 false)
      (
        k213 true)
      (0 : Int))
def g15 {α : Type} (m : Nat) : Nat → Nat → Nat → Nat → Nat → Nat → Nat → (List (List Int)) → Nat → (List (List Int)) → (Bool → Option α) → Option α :=
  g15b (g41 m) (g15l0M m)
def g15tp : List TP := [(.vl (.sv (.slc 0 0 5))), (.vl (.sv (.slc 1 0 5)))]
def g15bp : List BP := [(false, [(.seqv (.rc [.i8, .i16, .i16, .i64, .i64]))]), (false, [(.seqv (.rc [.i8, .i16, .i16, .i64, .i64]))])]
def g15K {α : Type} (G : Nat → Nat → Nat → Nat → Nat → Nat → Nat → (List (List Int)) → Nat → (List (List Int)) → (Bool → Option α) → Option α) (ls : List Lf) (k : TV → List (List Seg) → List (List Seg) → Option α) : Option α :=
  G (lf ls 0).nat (lf ls 1).nat (lf ls 2).nat (lf ls 3).nat (lf ls 4).nat (lf ls 5).nat (lf ls 6).nat ((lf ls 7).lst (.rc [.i8, .i16, .i16, .i64, .i64])) (lf ls 8).nat ((lf ls 9).lst (.rc [.i8, .i16, .i16, .i64, .i64]))
    (fun y0 => k (.vl (.sv (.bool y0))) [[(.seq (.rc [.i8, .i16, .i16, .i64, .i64]) (lf ls 6).nat ((lf ls 7).lst (.rc [.i8, .i16, .i16, .i64, .i64])))], [(.seq (.rc [.i8, .i16, .i16, .i64, .i64]) (lf ls 8).nat ((lf ls 9).lst (.rc [.i8, .i16, .i16, .i64, .i64])))]] [])
def g15hd (G_g41 : {α : Type} → Int → Int → Int → Int → Int → Int → Int → Int → Int → Int → (Bool → Option α) → Option α) (L_g15l0 : {α : Type} → Nat → Nat → Nat → Nat → Nat → Nat → Nat → (List (List Int)) → Nat → (List (List Int)) → (Option α) → (Option α) → Int → Option α) : Hd where
  call := fun f args Bs k => cond (Nat.beq f 41) (rowK g41tp g41bp (g41K G_g41) args Bs k) (none)
  loop := fun id st k => cond (Nat.beq id 0) (loopH g15l0D (g15l0K L_g15l0) st k) (none)
  ro := fun f => []
def g15h (m : Nat) : Hd := g15hd (g41 m) (g15l0M m)
theorem g15l0Step (G_g41 : {α : Type} → Int → Int → Int → Int → Int → Int → Int → Int → Int → Int → (Bool → Option α) → Option α) (L_g15l0 : {α : Type} → Nat → Nat → Nat → Nat → Nat → Nat → Nat → (List (List Int)) → Nat → (List (List Int)) → (Option α) → (Option α) → Int → Option α) {α : Type} (L : Nat → Nat → Nat → Nat → Nat → Nat → Nat → (List (List Int)) → Nat → (List (List Int)) → (Option α) → (Option α) → Int → Option α) (ls : List Lf) (k : Ex → St → Option α) :
    g15l0K (fun m169 m170 m171 m172 m173 m174 m176 a177 m178 a179 k210 k211 v175 => g15l0b G_g41 m169 m170 m171 m172 m173 m174 m176 a177 m178 a179 k210 k211 (L m169 m170 m171 m172 m173 m174 m176 a177 m178 a179 k210 k211) v175) ls k = ev tab (g15hd G_g41 L_g15l0) (bodyAt Go.Proofs.Try.f15 0) (atHead g15l0D ls) (loopK g15l0D 0 (loopH g15l0D (g15l0K L)) k) := by kernel_rfl
theorem g15Main (G_g41 : {α : Type} → Int → Int → Int → Int → Int → Int → Int → Int → Int → Int → (Bool → Option α) → Option α) (L_g15l0 : {α : Type} → Nat → Nat → Nat → Nat → Nat → Nat → Nat → (List (List Int)) → Nat → (List (List Int)) → (Option α) → (Option α) → Int → Option α) {α : Type} (ls : List Lf) (k : TV → List (List Seg) → List (List Seg) → Option α) :
    g15K (g15b G_g41 L_g15l0) ls k = evFun tab (g15hd G_g41 L_g15l0) Go.Proofs.Try.f15 (fillT g15tp ls).1 (fillB g15bp (fillT g15tp ls).2).1 k := by kernel_rfl
theorem g15Calls (m : Nat) : (g15h m).CallsOk Go.Proofs.Try.prog := (cok_cons (g41Ok m) cok_nil)
theorem g15l0Ok (m : Nat) (α : Type) (st : St) (k : Ex → St → Option α) (r : α) (h : (g15h m).loop 0 st k = some r) :
    ∃ e st', k e st' = some r ∧ CodeS Go.Proofs.Try.prog (.block 0 (.loop (bodyAt Go.Proofs.Try.f15 0))) st e st' :=
  loop_ok (tab := tab) (h := g15h m) (F := fun n ls k => g15l0K (fun m169 m170 m171 m172 m173 m174 m176 a177 m178 a179 k210 k211 v175 => g15l0 (g41 m) m169 m170 m171 m172 m173 m174 m176 a177 m178 a179 k210 k211 n v175) ls k) tabOk (g15Calls m) mixed (loopsOk_of _ (fun p hp => by rw [show loopsOf (bodyAt Go.Proofs.Try.f15 0) = [] by kernel_rfl] at hp; cases hp))
    (fun _ _ => rfl) (fun n ls k => g15l0Step (g41 m) (g15l0M m) (fun m169 m170 m171 m172 m173 m174 m176 a177 m178 a179 k210 k211 => g15l0 (g41 m) m169 m170 m171 m172 m173 m174 m176 a177 m178 a179 k210 k211 n) ls k) (n := m) h
theorem g15Fn (m : Nat) : FnOk Go.Proofs.Try.prog 15 g15tp g15bp (fun {α} => g15K (g15 (α := α) m)) :=
  fn_ok (tab := tab) (h := g15h m) (fn := Go.Proofs.Try.f15) (F := fun {α} => g15K (g15 (α := α) m)) tabOk (g15Calls m) mixed (by kernel_rfl) (by kernel_rfl) (fun c hc => by
    rw [bodyOf_some hc]
    exact loopsOk_of _ (fun p hp => by
    rw [show loopsOf (bodyOf Go.Proofs.Try.f15) = [(0, bodyAt Go.Proofs.Try.f15 0)] by kernel_rfl] at hp
    simp only [List.mem_cons, List.not_mem_nil, or_false] at hp
    rcases hp with rfl
    exact g15l0Ok m))
    (fun α ls k => g15Main (g41 m) (g15l0M m) ls k)
theorem g15Ok (m : Nat) : RowOk Go.Proofs.Try.prog 15 (fun {α} => rowK g15tp g15bp (g15K (g15 (α := α) m))) := row_of (g15Fn m)

/-! ### g3: laws.FnExactSameTerm -/
def g3b {α : Type} (G_g11 : {α : Type} → Nat → Nat → Nat → Int → Nat → (List (List Int)) → (Int → Option α) → Option α) (G_g13 : {α : Type} → Nat → Nat → Nat → Nat → (List (List Int)) → ((List (List Int)) → Option α) → Option α) (G_g12 : {α : Type} → Nat → Nat → Nat → Nat → Nat → Nat → Nat → (List (List Int)) → Nat → (List (List Int)) → (Bool → Option α) → Option α) (G_g14 : {α : Type} → Nat → Nat → Nat → Nat → Nat → Nat → Nat → (List (List Int)) → Nat → (List (List Int)) → (Bool → Option α) → Option α) (G_g15 : {α : Type} → Nat → Nat → Nat → Nat → Nat → Nat → Nat → (List (List Int)) → Nat → (List (List Int)) → (Bool → Option α) → Option α)  (m1 : Nat) (m2 : Nat) (m3 : Nat) (m4 : Nat) (m5 : Nat) (m6 : Nat) (m7 : Nat) (u8 : List (List Int)) (m9 : Nat) (u10 : List (List Int)) (k219 : Bool → Option α) : Option α :=
  G_g11 m1 m2 m3 (1048576 : Int) m7 u8
    (fun x20 =>
      cond (decide (x20 < (0 : Int)))
       (
        k219 true)
       (
        G_g11 m4 m5 m6 x20 m9 u10
          (fun x22 =>
            cond (decide (x22 < (0 : Int)))
             (
              k219 true)
             (
              G_g13 m1 m2 m3 m7 u8
                (fun l59 =>
                  G_g13 m4 m5 m6 m9 u10
                    (fun l60 =>
                      G_g12 0 m2 m2 0 m5 m5 m2 l59 m5 l60
                        (fun b100 =>
                          G_g13 m1 m2 m3 m7 u8
                            (fun l101 =>
                              G_g13 m4 m5 m6 m9 u10
                                (fun l102 =>
                                  G_g14 0 m2 m2 0 m5 m5 m2 l101 m5 l102
                                    (fun b155 =>
                                      cond (!(b155 == b100))
                                       (
                                        k219 false)
                                       (
                                        G_g13 m1 m2 m3 m7 u8
                                          (fun l157 =>
                                            G_g15 0 m2 m2 0 m2 m2 m2 l101 m2 l157
                                              (fun b214 =>
                                                cond (!b214)
                                                 (
                                                  k219 false)
                                                 (
                                                  G_g13 m4 m5 m6 m9 u10
                                                    (fun l216 =>
                                                      G_g15 0 m5 m5 0 m5 m5 m5 l102 m5 l216
                                                        (fun b217 =>
                                                          cond (!b217)
                                                           (
                                                            k219 false)
                                                           (
                                                            k219 true)))))))))))))))))
def g3 {α : Type} (m : Nat) : Nat → Nat → Nat → Nat → Nat → Nat → Nat → (List (List Int)) → Nat → (List (List Int)) → (Bool → Option α) → Option α :=
  g3b (g11 m) (g13 m) (g12 m) (g14 m) (g15 m)
def g3tp : List TP := [(.vl (.sv (.slc 0 0 5))), (.vl (.sv (.slc 1 0 5)))]
def g3bp : List BP := [(false, [(.seqv (.rc [.i8, .i16, .i16, .i64, .i64]))]), (false, [(.seqv (.rc [.i8, .i16, .i16, .i64, .i64]))])]
def g3K {α : Type} (G : Nat → Nat → Nat → Nat → Nat → Nat → Nat → (List (List Int)) → Nat → (List (List Int)) → (Bool → Option α) → Option α) (ls : List Lf) (k : TV → List (List Seg) → List (List Seg) → Option α) : Option α :=
  G (lf ls 0).nat (lf ls 1).nat (lf ls 2).nat (lf ls 3).nat (lf ls 4).nat (lf ls 5).nat (lf ls 6).nat ((lf ls 7).lst (.rc [.i8, .i16, .i16, .i64, .i64])) (lf ls 8).nat ((lf ls 9).lst (.rc [.i8, .i16, .i16, .i64, .i64]))
    (fun y0 => k (.vl (.sv (.bool y0))) [[(.seq (.rc [.i8, .i16, .i16, .i64, .i64]) (lf ls 6).nat ((lf ls 7).lst (.rc [.i8, .i16, .i16, .i64, .i64])))], [(.seq (.rc [.i8, .i16, .i16, .i64, .i64]) (lf ls 8).nat ((lf ls 9).lst (.rc [.i8, .i16, .i16, .i64, .i64])))]] [])
def g3hd (G_g11 : {α : Type} → Nat → Nat → Nat → Int → Nat → (List (List Int)) → (Int → Option α) → Option α) (G_g13 : {α : Type} → Nat → Nat → Nat → Nat → (List (List Int)) → ((List (List Int)) → Option α) → Option α) (G_g12 : {α : Type} → Nat → Nat → Nat → Nat → Nat → Nat → Nat → (List (List Int)) → Nat → (List (List Int)) → (Bool → Option α) → Option α) (G_g14 : {α : Type} → Nat → Nat → Nat → Nat → Nat → Nat → Nat → (List (List Int)) → Nat → (List (List Int)) → (Bool → Option α) → Option α) (G_g15 : {α : Type} → Nat → Nat → Nat → Nat → Nat → Nat → Nat → (List (List Int)) → Nat → (List (List Int)) → (Bool → Option α) → Option α)  : Hd where
  call := fun f args Bs k => cond (Nat.beq f 11) (rowK g11tp g11bp (g11K G_g11) args Bs k) (cond (Nat.beq f 13) (rowK g13tp g13bp (g13K G_g13) args Bs k) (cond (Nat.beq f 12) (rowK g12tp g12bp (g12K G_g12) args Bs k) (cond (Nat.beq f 14) (rowK g14tp g14bp (g14K G_g14) args Bs k) (cond (Nat.beq f 15) (rowK g15tp g15bp (g15K G_g15) args Bs k) (none)))))
  loop := fun id st k => none
  ro := fun f => cond (Nat.beq f 11) [0] (cond (Nat.beq f 12) [0, 1] (cond (Nat.beq f 13) [0] (cond (Nat.beq f 14) [0, 1] (cond (Nat.beq f 15) [0, 1] ([])))))
def g3h (m : Nat) : Hd := g3hd (g11 m) (g13 m) (g12 m) (g14 m) (g15 m)
theorem g3Main (G_g11 : {α : Type} → Nat → Nat → Nat → Int → Nat → (List (List Int)) → (Int → Option α) → Option α) (G_g13 : {α : Type} → Nat → Nat → Nat → Nat → (List (List Int)) → ((List (List Int)) → Option α) → Option α) (G_g12 : {α : Type} → Nat → Nat → Nat → Nat → Nat → Nat → Nat → (List (List Int)) → Nat → (List (List Int)) → (Bool → Option α) → Option α) (G_g14 : {α : Type} → Nat → Nat → Nat → Nat → Nat → Nat → Nat → (List (List Int)) → Nat → (List (List Int)) → (Bool → Option α) → Option α) (G_g15 : {α : Type} → Nat → Nat → Nat → Nat → Nat → Nat → Nat → (List (List Int)) → Nat → (List (List Int)) → (Bool → Option α) → Option α)  {α : Type} (ls : List Lf) (k : TV → List (List Seg) → List (List Seg) → Option α) :
    g3K (g3b G_g11 G_g13 G_g12 G_g14 G_g15) ls k = evFun tab (g3hd G_g11 G_g13 G_g12 G_g14 G_g15) Go.Proofs.Try.f3 (fillT g3tp ls).1 (fillB g3bp (fillT g3tp ls).2).1 k := by kernel_rfl
theorem g3Calls (m : Nat) : (g3h m).CallsOk Go.Proofs.Try.prog := (cok_cons (g11Ok m) (cok_cons (g13Ok m) (cok_cons (g12Ok m) (cok_cons (g14Ok m) (cok_cons (g15Ok m) cok_nil)))))
theorem g3Fn (m : Nat) : FnOk Go.Proofs.Try.prog 3 g3tp g3bp (fun {α} => g3K (g3 (α := α) m)) :=
  fn_ok (tab := tab) (h := g3h m) (fn := Go.Proofs.Try.f3) (F := fun {α} => g3K (g3 (α := α) m)) tabOk (g3Calls m) mixed (by kernel_rfl) (by kernel_rfl) (fun c hc => by
    rw [bodyOf_some hc]
    exact loopsOk_of _ (fun p hp => by rw [show loopsOf (bodyOf Go.Proofs.Try.f3) = [] by kernel_rfl] at hp; cases hp))
    (fun α ls k => g3Main (g11 m) (g13 m) (g12 m) (g14 m) (g15 m) ls k)
theorem g3Ok (m : Nat) : RowOk Go.Proofs.Try.prog 3 (fun {α} => rowK g3tp g3bp (g3K (g3 (α := α) m))) := row_of (g3Fn m)

/-! ### g81: spec.l00In -/
def g81b {α : Type}   (p238 : Int) (p239 : Int) (p240 : Int) (k243 : Bool → Option α) : Option α :=
  cond (decide (p238 ≥ p239))
   (
    k243 (decide (p238 ≤ p240)))
   (
    k243 false)
def g81 {α : Type} (m : Nat) : Int → Int → Int → (Bool → Option α) → Option α :=
  g81b
def g81tp : List TP := [(.vl (.sv (.int .i64))), (.vl (.sv (.int .i64))), (.vl (.sv (.int .i64)))]
def g81bp : List BP := []
def g81K {α : Type} (G : Int → Int → Int → (Bool → Option α) → Option α) (ls : List Lf) (k : TV → List (List Seg) → List (List Seg) → Option α) : Option α :=
  G (lf ls 0).int (lf ls 1).int (lf ls 2).int
    (fun y0 => k (.vl (.sv (.bool y0))) [] [])
def g81hd   : Hd where
  call := fun f args Bs k => none
  loop := fun id st k => none
  ro := fun f => []
def g81h (m : Nat) : Hd := g81hd
theorem g81Main   {α : Type} (ls : List Lf) (k : TV → List (List Seg) → List (List Seg) → Option α) :
    g81K (g81b) ls k = evFun tab (g81hd) Go.Proofs.Try.f81 (fillT g81tp ls).1 (fillB g81bp (fillT g81tp ls).2).1 k := by kernel_rfl
theorem g81Calls (m : Nat) : (g81h m).CallsOk Go.Proofs.Try.prog := cok_nil
theorem g81Fn (m : Nat) : FnOk Go.Proofs.Try.prog 81 g81tp g81bp (fun {α} => g81K (g81 (α := α) m)) :=
  fn_ok (tab := tab) (h := g81h m) (fn := Go.Proofs.Try.f81) (F := fun {α} => g81K (g81 (α := α) m)) tabOk (g81Calls m) mixed (by kernel_rfl) (by kernel_rfl) (fun c hc => by
    rw [bodyOf_some hc]
    exact loopsOk_of _ (fun p hp => by rw [show loopsOf (bodyOf Go.Proofs.Try.f81) = [] by kernel_rfl] at hp; cases hp))
    (fun α ls k => g81Main ls k)
theorem g81Ok (m : Nat) : RowOk Go.Proofs.Try.prog 81 (fun {α} => rowK g81tp g81bp (g81K (g81 (α := α) m))) := row_of (g81Fn m)

/-! ### g95: spec.l02One -/
def g95b {α : Type}   (p262 : Int) (k266 : Bool → Option α) : Option α :=
  cond (p262 == (6 : Int))
   (
    k266 true)
   (
    cond (p262 == (7 : Int))
     (
      k266 true)
     (
      k266 (p262 == (10 : Int))))
def g95 {α : Type} (m : Nat) : Int → (Bool → Option α) → Option α :=
  g95b
def g95tp : List TP := [(.vl (.sv (.int .i8)))]
def g95bp : List BP := []
def g95K {α : Type} (G : Int → (Bool → Option α) → Option α) (ls : List Lf) (k : TV → List (List Seg) → List (List Seg) → Option α) : Option α :=
  G (lf ls 0).int
    (fun y0 => k (.vl (.sv (.bool y0))) [] [])
def g95hd   : Hd where
  call := fun f args Bs k => none
  loop := fun id st k => none
  ro := fun f => []
def g95h (m : Nat) : Hd := g95hd
theorem g95Main   {α : Type} (ls : List Lf) (k : TV → List (List Seg) → List (List Seg) → Option α) :
    g95K (g95b) ls k = evFun tab (g95hd) Go.Proofs.Try.f95 (fillT g95tp ls).1 (fillB g95bp (fillT g95tp ls).2).1 k := by kernel_rfl
theorem g95Calls (m : Nat) : (g95h m).CallsOk Go.Proofs.Try.prog := cok_nil
theorem g95Fn (m : Nat) : FnOk Go.Proofs.Try.prog 95 g95tp g95bp (fun {α} => g95K (g95 (α := α) m)) :=
  fn_ok (tab := tab) (h := g95h m) (fn := Go.Proofs.Try.f95) (F := fun {α} => g95K (g95 (α := α) m)) tabOk (g95Calls m) mixed (by kernel_rfl) (by kernel_rfl) (fun c hc => by
    rw [bodyOf_some hc]
    exact loopsOk_of _ (fun p hp => by rw [show loopsOf (bodyOf Go.Proofs.Try.f95) = [] by kernel_rfl] at hp; cases hp))
    (fun α ls k => g95Main ls k)
theorem g95Ok (m : Nat) : RowOk Go.Proofs.Try.prog 95 (fun {α} => rowK g95tp g95bp (g95K (g95 (α := α) m))) := row_of (g95Fn m)

/-! ### g96: spec.l02Two -/
def g96b {α : Type}   (p278 : Int) (k285 : Bool → Option α) : Option α :=
  cond (decide (p278 ≥ (2 : Int)))
   (
    cond (decide (p278 ≤ (5 : Int)))
     (
      k285 true)
     (
      cond (p278 == (8 : Int))
       (
        k285 true)
       (
        k285 (p278 == (9 : Int)))))
   (
    cond (p278 == (8 : Int))
     (
      k285 true)
     (
      k285 (p278 == (9 : Int))))
def g96 {α : Type} (m : Nat) : Int → (Bool → Option α) → Option α :=
  g96b
def g96tp : List TP := [(.vl (.sv (.int .i8)))]
def g96bp : List BP := []
def g96K {α : Type} (G : Int → (Bool → Option α) → Option α) (ls : List Lf) (k : TV → List (List Seg) → List (List Seg) → Option α) : Option α :=
  G (lf ls 0).int
    (fun y0 => k (.vl (.sv (.bool y0))) [] [])
def g96hd   : Hd where
  call := fun f args Bs k => none
  loop := fun id st k => none
  ro := fun f => []
def g96h (m : Nat) : Hd := g96hd
theorem g96Main   {α : Type} (ls : List Lf) (k : TV → List (List Seg) → List (List Seg) → Option α) :
    g96K (g96b) ls k = evFun tab (g96hd) Go.Proofs.Try.f96 (fillT g96tp ls).1 (fillB g96bp (fillT g96tp ls).2).1 k := by kernel_rfl
theorem g96Calls (m : Nat) : (g96h m).CallsOk Go.Proofs.Try.prog := cok_nil
theorem g96Fn (m : Nat) : FnOk Go.Proofs.Try.prog 96 g96tp g96bp (fun {α} => g96K (g96 (α := α) m)) :=
  fn_ok (tab := tab) (h := g96h m) (fn := Go.Proofs.Try.f96) (F := fun {α} => g96K (g96 (α := α) m)) tabOk (g96Calls m) mixed (by kernel_rfl) (by kernel_rfl) (fun c hc => by
    rw [bodyOf_some hc]
    exact loopsOk_of _ (fun p hp => by rw [show loopsOf (bodyOf Go.Proofs.Try.f96) = [] by kernel_rfl] at hp; cases hp))
    (fun α ls k => g96Main ls k)
theorem g96Ok (m : Nat) : RowOk Go.Proofs.Try.prog 96 (fun {α} => rowK g96tp g96bp (g96K (g96 (α := α) m))) := row_of (g96Fn m)

/-! ### g82: spec.l02Node -/
def g82b {α : Type} (G_g95 : {α : Type} → Int → (Bool → Option α) → Option α) (G_g81 : {α : Type} → Int → Int → Int → (Bool → Option α) → Option α) (G_g96 : {α : Type} → Int → (Bool → Option α) → Option α)  (m253 : Nat) (p254 : Int) (m255 : Nat) (u256 : List (List Int)) (k326 : Bool → Option α) : Option α :=
  if m253 < m255 then
    cond (decide (((List.getD u256 m253 []).headD 0) < (1 : Int)))
     (
      k326 false)
     (
      if m253 < m255 then
        cond (decide (((List.getD u256 m253 []).headD 0) > (12 : Int)))
         (
          k326 false)
         (
          if m253 < m255 then
            G_g95 ((List.getD u256 m253 []).headD 0)
              (fun b267 =>
                cond b267
                 (
                  if m253 < m255 then
                    G_g81 (IntKind.wrap .i64 (((List.getD u256 m253 []).tail).headD 0)) (0 : Int) (IntKind.wrap .i64 (p254 - (1 : Int)))
                      (fun b271 =>
                        cond (!b271)
                         (
                          k326 false)
                         (
                          if m253 < m255 then
                            cond ((((List.getD u256 m253 []).tail.tail.tail).headD 0) != (0 : Int))
                             (
                              k326 false)
                             (
                              if m253 < m255 then
                                cond ((((List.getD u256 m253 []).tail.tail.tail.tail).headD 0) != (0 : Int))
                                 (
                                  k326 false)
                                 (
                                  if m253 < m255 then
                                    G_g96 ((List.getD u256 m253 []).headD 0)
                                      (fun b286 =>
                                        cond b286
                                         (
                                          if m253 < m255 then
                                            G_g81 (IntKind.wrap .i64 (((List.getD u256 m253 []).tail.tail).headD 0)) (0 : Int) (IntKind.wrap .i64 (p254 - (1 : Int)))
                                              (fun b290 =>
                                                k326 b290)
                                          else
                                            none)
                                         (
                                          if m253 < m255 then
                                            k326 ((((List.getD u256 m253 []).tail.tail).headD 0) == (0 : Int))
                                          else
                                            none))
                                  else
                                    none)
                              else
                                none)
                          else
                            none))
                  else
                    none)
                 (
                  if m253 < m255 then
                    G_g96 ((List.getD u256 m253 []).headD 0)
                      (fun b294 =>
                        cond b294
                         (
                          if m253 < m255 then
                            G_g81 (IntKind.wrap .i64 (((List.getD u256 m253 []).tail).headD 0)) (0 : Int) (IntKind.wrap .i64 (p254 - (1 : Int)))
                              (fun b298 =>
                                cond (!b298)
                                 (
                                  k326 false)
                                 (
                                  if m253 < m255 then
                                    cond ((((List.getD u256 m253 []).tail.tail.tail).headD 0) != (0 : Int))
                                     (
                                      k326 false)
                                     (
                                      if m253 < m255 then
                                        cond ((((List.getD u256 m253 []).tail.tail.tail.tail).headD 0) != (0 : Int))
                                         (
                                          k326 false)
                                         (
                                          if m253 < m255 then
                                            G_g96 ((List.getD u256 m253 []).headD 0)
                                              (fun b305 =>
                                                cond b305
                                                 (
                                                  if m253 < m255 then
                                                    G_g81 (IntKind.wrap .i64 (((List.getD u256 m253 []).tail.tail).headD 0)) (0 : Int) (IntKind.wrap .i64 (p254 - (1 : Int)))
                                                      (fun b309 =>
                                                        k326 b309)
                                                  else
                                                    none)
                                                 (
                                                  if m253 < m255 then
                                                    k326 ((((List.getD u256 m253 []).tail.tail).headD 0) == (0 : Int))
                                                  else
                                                    none))
                                          else
                                            none)
                                      else
                                        none)
                                  else
                                    none))
                          else
                            none)
                         (
                          if m253 < m255 then
                            cond ((((List.getD u256 m253 []).tail).headD 0) != (0 : Int))
                             (
                              k326 false)
                             (
                              if m253 < m255 then
                                cond ((((List.getD u256 m253 []).tail.tail).headD 0) != (0 : Int))
                                 (
                                  k326 false)
                                 (
                                  if m253 < m255 then
                                    cond (((List.getD u256 m253 []).headD 0) == (1 : Int))
                                     (
                                      if m253 < m255 then
                                        G_g81 (((List.getD u256 m253 []).tail.tail.tail).headD 0) (-1000000000 : Int) (1000000000 : Int)
                                          (fun b319 =>
                                            cond b319
                                             (
                                              if m253 < m255 then
                                                G_g81 (((List.getD u256 m253 []).tail.tail.tail.tail).headD 0) (1 : Int) (1000000000 : Int)
                                                  (fun b321 =>
                                                    k326 b321)
                                              else
                                                none)
                                             (
                                              k326 false))
                                      else
                                        none)
                                     (
                                      if m253 < m255 then
                                        cond ((((List.getD u256 m253 []).tail.tail.tail).headD 0) == (0 : Int))
                                         (
                                          if m253 < m255 then
                                            k326 ((((List.getD u256 m253 []).tail.tail.tail.tail).headD 0) == (0 : Int))
                                          else
                                            none)
                                         (
                                          k326 false)
                                      else
                                        none)
                                  else
                                    none)
                              else
                                none)
                          else
                            none))
                  else
                    none))
          else
            none)
      else
        none)
  else
    none
def g82 {α : Type} (m : Nat) : Nat → Int → Nat → (List (List Int)) → (Bool → Option α) → Option α :=
  g82b (g95 m) (g81 m) (g96 m)
def g82tp : List TP := [(.vl (.sv (.el 0 0 5 0))), (.vl (.sv (.int .i64)))]
def g82bp : List BP := [(false, [(.seqv (.rc [.i8, .i16, .i16, .i64, .i64]))])]
def g82K {α : Type} (G : Nat → Int → Nat → (List (List Int)) → (Bool → Option α) → Option α) (ls : List Lf) (k : TV → List (List Seg) → List (List Seg) → Option α) : Option α :=
  G (lf ls 0).nat (lf ls 1).int (lf ls 2).nat ((lf ls 3).lst (.rc [.i8, .i16, .i16, .i64, .i64]))
    (fun y0 => k (.vl (.sv (.bool y0))) [[(.seq (.rc [.i8, .i16, .i16, .i64, .i64]) (lf ls 2).nat ((lf ls 3).lst (.rc [.i8, .i16, .i16, .i64, .i64])))]] [])
def g82hd (G_g95 : {α : Type} → Int → (Bool → Option α) → Option α) (G_g81 : {α : Type} → Int → Int → Int → (Bool → Option α) → Option α) (G_g96 : {α : Type} → Int → (Bool → Option α) → Option α)  : Hd where
  call := fun f args Bs k => cond (Nat.beq f 95) (rowK g95tp g95bp (g95K G_g95) args Bs k) (cond (Nat.beq f 81) (rowK g81tp g81bp (g81K G_g81) args Bs k) (cond (Nat.beq f 96) (rowK g96tp g96bp (g96K G_g96) args Bs k) (none)))
  loop := fun id st k => none
  ro := fun f => []
def g82h (m : Nat) : Hd := g82hd (g95 m) (g81 m) (g96 m)
theorem g82Main (G_g95 : {α : Type} → Int → (Bool → Option α) → Option α) (G_g81 : {α : Type} → Int → Int → Int → (Bool → Option α) → Option α) (G_g96 : {α : Type} → Int → (Bool → Option α) → Option α)  {α : Type} (ls : List Lf) (k : TV → List (List Seg) → List (List Seg) → Option α) :
    g82K (g82b G_g95 G_g81 G_g96) ls k = evFun tab (g82hd G_g95 G_g81 G_g96) Go.Proofs.Try.f82 (fillT g82tp ls).1 (fillB g82bp (fillT g82tp ls).2).1 k := by kernel_rfl
theorem g82Calls (m : Nat) : (g82h m).CallsOk Go.Proofs.Try.prog := (cok_cons (g95Ok m) (cok_cons (g81Ok m) (cok_cons (g96Ok m) cok_nil)))
theorem g82Fn (m : Nat) : FnOk Go.Proofs.Try.prog 82 g82tp g82bp (fun {α} => g82K (g82 (α := α) m)) :=
  fn_ok (tab := tab) (h := g82h m) (fn := Go.Proofs.Try.f82) (F := fun {α} => g82K (g82 (α := α) m)) tabOk (g82Calls m) mixed (by kernel_rfl) (by kernel_rfl) (fun c hc => by
    rw [bodyOf_some hc]
    exact loopsOk_of _ (fun p hp => by rw [show loopsOf (bodyOf Go.Proofs.Try.f82) = [] by kernel_rfl] at hp; cases hp))
    (fun α ls k => g82Main (g95 m) (g81 m) (g96 m) ls k)
theorem g82Ok (m : Nat) : RowOk Go.Proofs.Try.prog 82 (fun {α} => rowK g82tp g82bp (g82K (g82 (α := α) m))) := row_of (g82Fn m)

/-! ### g42: spec.l02Ok -/
def g42l0b {α : Type} (G_g82 : {α : Type} → Nat → Int → Nat → (List (List Int)) → (Bool → Option α) → Option α)  (m246 : Nat) (m247 : Nat) (m248 : Nat) (m250 : Nat) (a251 : List (List Int)) (k330 : Option α) (k331 : Option α) (r332 : Int → Option α) (v249 : Int) : Option α :=
  cond (decide (v249 < ((m247 : Nat) : Int)))
   (
    if 0 ≤ v249 ∧ v249 < (m247 : Nat) then
      G_g82 (m246 + v249.toNat) v249 m250 a251
        (fun b327 =>
          cond (!b327)
           (
            k330)
           (
            r332 (IntKind.wrap .i64 (v249 + (1 : Int)))))
    else
      none)
   (
    k331)
def g42l0 {α : Type} (G_g82 : {α : Type} → Nat → Int → Nat → (List (List Int)) → (Bool → Option α) → Option α)  (m246 : Nat) (m247 : Nat) (m248 : Nat) (m250 : Nat) (a251 : List (List Int)) (k330 : Option α) (k331 : Option α) : Nat → Int → Option α
  | 0 => fun _ => none
  | m + 1 => fun v249 => g42l0b G_g82 m246 m247 m248 m250 a251 k330 k331 (g42l0 G_g82 m246 m247 m248 m250 a251 k330 k331 m) v249
def g42l0M {α : Type} (m : Nat) : Nat → Nat → Nat → Nat → (List (List Int)) → (Option α) → (Option α) → Int → Option α :=
  fun m246 m247 m248 m250 a251 k330 k331 v249 => g42l0 (g82 m) m246 m247 m248 m250 a251 k330 k331 m v249
def g42l0D : LoopD := { n := 20, sl := [0, 3], bl := [0], tp := [(.vl (.sv (.slc 0 0 5))), (.vl (.sv (.int .i64)))], bp := [(false, [(.seqv (.rc [.i8, .i16, .i16, .i64, .i64]))])], xs := [(1, [2], [0]), (2, [], [0])] }
def g42l0K {α : Type} (L : Nat → Nat → Nat → Nat → (List (List Int)) → (Option α) → (Option α) → Int → Option α) (ls : List Lf) (k : Ex → St → Option α) : Option α :=
  L (lf ls 0).nat (lf ls 1).nat (lf ls 2).nat (lf ls 4).nat ((lf ls 5).lst (.rc [.i8, .i16, .i16, .i64, .i64]))
    (k .ret (mkSt 20 [2] [(.vl (.sv (.bool false)))] [0] [(false, [(.seq (.rc [.i8, .i16, .i16, .i64, .i64]) (lf ls 4).nat ((lf ls 5).lst (.rc [.i8, .i16, .i16, .i64, .i64])))])]))
    (k .normal (mkSt 20 [] [] [0] [(false, [(.seq (.rc [.i8, .i16, .i16, .i64, .i64]) (lf ls 4).nat ((lf ls 5).lst (.rc [.i8, .i16, .i16, .i64, .i64])))])]))
    (lf ls 3).int
def g42b {α : Type} (G_g81 : {α : Type} → Int → Int → Int → (Bool → Option α) → Option α) (G_g82 : {α : Type} → Nat → Int → Nat → (List (List Int)) → (Bool → Option α) → Option α) (L_g42l0 : {α : Type} → Nat → Nat → Nat → Nat → (List (List Int)) → (Option α) → (Option α) → Int → Option α) (m233 : Nat) (m234 : Nat) (m235 : Nat) (m236 : Nat) (u237 : List (List Int)) (k333 : Bool → Option α) : Option α :=
  G_g81 ((m234 : Nat) : Int) (1 : Int) (40 : Int)
    (fun b244 =>
      cond (!b244)
       (
        k333 false)
       (
        L_g42l0 m233 m234 m235 m236 u237
          (
            k333 false)
          (
            k333 true)
          (0 : Int)))
def g42 {α : Type} (m : Nat) : Nat → Nat → Nat → Nat → (List (List Int)) → (Bool → Option α) → Option α :=
  g42b (g81 m) (g82 m) (g42l0M m)
def g42tp : List TP := [(.vl (.sv (.slc 0 0 5)))]
def g42bp : List BP := [(false, [(.seqv (.rc [.i8, .i16, .i16, .i64, .i64]))])]
def g42K {α : Type} (G : Nat → Nat → Nat → Nat → (List (List Int)) → (Bool → Option α) → Option α) (ls : List Lf) (k : TV → List (List Seg) → List (List Seg) → Option α) : Option α :=
  G (lf ls 0).nat (lf ls 1).nat (lf ls 2).nat (lf ls 3).nat ((lf ls 4).lst (.rc [.i8, .i16, .i16, .i64, .i64]))
    (fun y0 => k (.vl (.sv (.bool y0))) [[(.seq (.rc [.i8, .i16, .i16, .i64, .i64]) (lf ls 3).nat ((lf ls 4).lst (.rc [.i8, .i16, .i16, .i64, .i64])))]] [])
def g42hd (G_g81 : {α : Type} → Int → Int → Int → (Bool → Option α) → Option α) (G_g82 : {α : Type} → Nat → Int → Nat → (List (List Int)) → (Bool → Option α) → Option α) (L_g42l0 : {α : Type} → Nat → Nat → Nat → Nat → (List (List Int)) → (Option α) → (Option α) → Int → Option α) : Hd where
  call := fun f args Bs k => cond (Nat.beq f 81) (rowK g81tp g81bp (g81K G_g81) args Bs k) (cond (Nat.beq f 82) (rowK g82tp g82bp (g82K G_g82) args Bs k) (none))
  loop := fun id st k => cond (Nat.beq id 0) (loopH g42l0D (g42l0K L_g42l0) st k) (none)
  ro := fun f => cond (Nat.beq f 82) [0] ([])
def g42h (m : Nat) : Hd := g42hd (g81 m) (g82 m) (g42l0M m)
theorem g42l0Step (G_g81 : {α : Type} → Int → Int → Int → (Bool → Option α) → Option α) (G_g82 : {α : Type} → Nat → Int → Nat → (List (List Int)) → (Bool → Option α) → Option α) (L_g42l0 : {α : Type} → Nat → Nat → Nat → Nat → (List (List Int)) → (Option α) → (Option α) → Int → Option α) {α : Type} (L : Nat → Nat → Nat → Nat → (List (List Int)) → (Option α) → (Option α) → Int → Option α) (ls : List Lf) (k : Ex → St → Option α) :
    g42l0K (fun m246 m247 m248 m250 a251 k330 k331 v249 => g42l0b G_g82 m246 m247 m248 m250 a251 k330 k331 (L m246 m247 m248 m250 a251 k330 k331) v249) ls k = ev tab (g42hd G_g81 G_g82 L_g42l0) (bodyAt Go.Proofs.Try.f42 0) (atHead g42l0D ls) (loopK g42l0D 0 (loopH g42l0D (g42l0K L)) k) := by kernel_rfl
theorem g42Main (G_g81 : {α : Type} → Int → Int → Int → (Bool → Option α) → Option α) (G_g82 : {α : Type} → Nat → Int → Nat → (List (List Int)) → (Bool → Option α) → Option α) (L_g42l0 : {α : Type} → Nat → Nat → Nat → Nat → (List (List Int)) → (Option α) → (Option α) → Int → Option α) {α : Type} (ls : List Lf) (k : TV → List (List Seg) → List (List Seg) → Option α) :
    g42K (g42b G_g81 G_g82 L_g42l0) ls k = evFun tab (g42hd G_g81 G_g82 L_g42l0) Go.Proofs.Try.f42 (fillT g42tp ls).1 (fillB g42bp (fillT g42tp ls).2).1 k := by kernel_rfl
theorem g42Calls (m : Nat) : (g42h m).CallsOk Go.Proofs.Try.prog := (cok_cons (g81Ok m) (cok_cons (g82Ok m) cok_nil))
theorem g42l0Ok (m : Nat) (α : Type) (st : St) (k : Ex → St → Option α) (r : α) (h : (g42h m).loop 0 st k = some r) :
    ∃ e st', k e st' = some r ∧ CodeS Go.Proofs.Try.prog (.block 0 (.loop (bodyAt Go.Proofs.Try.f42 0))) st e st' :=
  loop_ok (tab := tab) (h := g42h m) (F := fun n ls k => g42l0K (fun m246 m247 m248 m250 a251 k330 k331 v249 => g42l0 (g82 m) m246 m247 m248 m250 a251 k330 k331 n v249) ls k) tabOk (g42Calls m) mixed (loopsOk_of _ (fun p hp => by rw [show loopsOf (bodyAt Go.Proofs.Try.f42 0) = [] by kernel_rfl] at hp; cases hp))
    (fun _ _ => rfl) (fun n ls k => g42l0Step (g81 m) (g82 m) (g42l0M m) (fun m246 m247 m248 m250 a251 k330 k331 => g42l0 (g82 m) m246 m247 m248 m250 a251 k330 k331 n) ls k) (n := m) h
theorem g42Fn (m : Nat) : FnOk Go.Proofs.Try.prog 42 g42tp g42bp (fun {α} => g42K (g42 (α := α) m)) :=
  fn_ok (tab := tab) (h := g42h m) (fn := Go.Proofs.Try.f42) (F := fun {α} => g42K (g42 (α := α) m)) tabOk (g42Calls m) mixed (by kernel_rfl) (by kernel_rfl) (fun c hc => by
    rw [bodyOf_some hc]
    exact loopsOk_of _ (fun p hp => by
    rw [show loopsOf (bodyOf Go.Proofs.Try.f42) = [(0, bodyAt Go.Proofs.Try.f42 0)] by kernel_rfl] at hp
    simp only [List.mem_cons, List.not_mem_nil, or_false] at hp
    rcases hp with rfl
    exact g42l0Ok m))
    (fun α ls k => g42Main (g81 m) (g82 m) (g42l0M m) ls k)
theorem g42Ok (m : Nat) : RowOk Go.Proofs.Try.prog 42 (fun {α} => rowK g42tp g42bp (g42K (g42 (α := α) m))) := row_of (g42Fn m)

/-! ### g16: spec.ValidTerm -/
def g16b {α : Type} (G_g42 : {α : Type} → Nat → Nat → Nat → Nat → (List (List Int)) → (Bool → Option α) → Option α)  (m228 : Nat) (m229 : Nat) (m230 : Nat) (m231 : Nat) (u232 : List (List Int)) (k335 : Bool → Option α) : Option α :=
  G_g42 m228 m229 m230 m231 u232
    (fun b334 =>
      k335 b334)
def g16 {α : Type} (m : Nat) : Nat → Nat → Nat → Nat → (List (List Int)) → (Bool → Option α) → Option α :=
  g16b (g42 m)
def g16tp : List TP := [(.vl (.sv (.slc 0 0 5)))]
def g16bp : List BP := [(false, [(.seqv (.rc [.i8, .i16, .i16, .i64, .i64]))])]
def g16K {α : Type} (G : Nat → Nat → Nat → Nat → (List (List Int)) → (Bool → Option α) → Option α) (ls : List Lf) (k : TV → List (List Seg) → List (List Seg) → Option α) : Option α :=
  G (lf ls 0).nat (lf ls 1).nat (lf ls 2).nat (lf ls 3).nat ((lf ls 4).lst (.rc [.i8, .i16, .i16, .i64, .i64]))
    (fun y0 => k (.vl (.sv (.bool y0))) [[(.seq (.rc [.i8, .i16, .i16, .i64, .i64]) (lf ls 3).nat ((lf ls 4).lst (.rc [.i8, .i16, .i16, .i64, .i64])))]] [])
def g16hd (G_g42 : {α : Type} → Nat → Nat → Nat → Nat → (List (List Int)) → (Bool → Option α) → Option α)  : Hd where
  call := fun f args Bs k => cond (Nat.beq f 42) (rowK g42tp g42bp (g42K G_g42) args Bs k) (none)
  loop := fun id st k => none
  ro := fun f => cond (Nat.beq f 42) [0] ([])
def g16h (m : Nat) : Hd := g16hd (g42 m)
theorem g16Main (G_g42 : {α : Type} → Nat → Nat → Nat → Nat → (List (List Int)) → (Bool → Option α) → Option α)  {α : Type} (ls : List Lf) (k : TV → List (List Seg) → List (List Seg) → Option α) :
    g16K (g16b G_g42) ls k = evFun tab (g16hd G_g42) Go.Proofs.Try.f16 (fillT g16tp ls).1 (fillB g16bp (fillT g16tp ls).2).1 k := by kernel_rfl
theorem g16Calls (m : Nat) : (g16h m).CallsOk Go.Proofs.Try.prog := (cok_cons (g42Ok m) cok_nil)
theorem g16Fn (m : Nat) : FnOk Go.Proofs.Try.prog 16 g16tp g16bp (fun {α} => g16K (g16 (α := α) m)) :=
  fn_ok (tab := tab) (h := g16h m) (fn := Go.Proofs.Try.f16) (F := fun {α} => g16K (g16 (α := α) m)) tabOk (g16Calls m) mixed (by kernel_rfl) (by kernel_rfl) (fun c hc => by
    rw [bodyOf_some hc]
    exact loopsOk_of _ (fun p hp => by rw [show loopsOf (bodyOf Go.Proofs.Try.f16) = [] by kernel_rfl] at hp; cases hp))
    (fun α ls k => g16Main (g42 m) ls k)
theorem g16Ok (m : Nat) : RowOk Go.Proofs.Try.prog 16 (fun {α} => rowK g16tp g16bp (g16K (g16 (α := α) m))) := row_of (g16Fn m)

/-! ### g43: impl.uses -/
def g43b {α : Type}   (p358 : Int) (k369 : Bool → Bool → Bool → Option α) : Option α :=
  cond (p358 == (1 : Int))
   (
    k369 false false true)
   (
    cond (p358 == (2 : Int))
     (
      k369 true true false)
     (
      cond (p358 == (3 : Int))
       (
        k369 true true false)
       (
        cond (p358 == (4 : Int))
         (
          k369 true true false)
         (
          cond (p358 == (5 : Int))
           (
            k369 true true false)
           (
            cond (p358 == (8 : Int))
             (
              k369 true true false)
             (
              cond (p358 == (9 : Int))
               (
                k369 true true false)
               (
                cond (p358 == (6 : Int))
                 (
                  k369 true false false)
                 (
                  cond (p358 == (7 : Int))
                   (
                    k369 true false false)
                   (
                    cond (p358 == (10 : Int))
                     (
                      k369 true false false)
                     (
                      k369 false false false))))))))))
def g43 {α : Type} (m : Nat) : Int → (Bool → Bool → Bool → Option α) → Option α :=
  g43b
def g43tp : List TP := [(.vl (.sv (.int .i8)))]
def g43bp : List BP := []
def g43K {α : Type} (G : Int → (Bool → Bool → Bool → Option α) → Option α) (ls : List Lf) (k : TV → List (List Seg) → List (List Seg) → Option α) : Option α :=
  G (lf ls 0).int
    (fun y0 y1 y2 => k (.tup [(.sv (.bool y0)), (.sv (.bool y1)), (.sv (.bool y2))]) [] [])
def g43hd   : Hd where
  call := fun f args Bs k => none
  loop := fun id st k => none
  ro := fun f => []
def g43h (m : Nat) : Hd := g43hd
theorem g43Main   {α : Type} (ls : List Lf) (k : TV → List (List Seg) → List (List Seg) → Option α) :
    g43K (g43b) ls k = evFun tab (g43hd) Go.Proofs.Try.f43 (fillT g43tp ls).1 (fillB g43bp (fillT g43tp ls).2).1 k := by kernel_rfl
theorem g43Calls (m : Nat) : (g43h m).CallsOk Go.Proofs.Try.prog := cok_nil
theorem g43Fn (m : Nat) : FnOk Go.Proofs.Try.prog 43 g43tp g43bp (fun {α} => g43K (g43 (α := α) m)) :=
  fn_ok (tab := tab) (h := g43h m) (fn := Go.Proofs.Try.f43) (F := fun {α} => g43K (g43 (α := α) m)) tabOk (g43Calls m) mixed (by kernel_rfl) (by kernel_rfl) (fun c hc => by
    rw [bodyOf_some hc]
    exact loopsOk_of _ (fun p hp => by rw [show loopsOf (bodyOf Go.Proofs.Try.f43) = [] by kernel_rfl] at hp; cases hp))
    (fun α ls k => g43Main ls k)
theorem g43Ok (m : Nat) : RowOk Go.Proofs.Try.prog 43 (fun {α} => rowK g43tp g43bp (g43K (g43 (α := α) m))) := row_of (g43Fn m)

/-! ### g64: impl.within -/
def g64b {α : Type}   (p379 : Int) (p380 : Int) (p381 : Int) (k384 : Bool → Option α) : Option α :=
  cond (decide (p379 ≥ p380))
   (
    k384 (decide (p379 ≤ p381)))
   (
    k384 false)
def g64 {α : Type} (m : Nat) : Int → Int → Int → (Bool → Option α) → Option α :=
  g64b
def g64tp : List TP := [(.vl (.sv (.int .i64))), (.vl (.sv (.int .i64))), (.vl (.sv (.int .i64)))]
def g64bp : List BP := []
def g64K {α : Type} (G : Int → Int → Int → (Bool → Option α) → Option α) (ls : List Lf) (k : TV → List (List Seg) → List (List Seg) → Option α) : Option α :=
  G (lf ls 0).int (lf ls 1).int (lf ls 2).int
    (fun y0 => k (.vl (.sv (.bool y0))) [] [])
def g64hd   : Hd where
  call := fun f args Bs k => none
  loop := fun id st k => none
  ro := fun f => []
def g64h (m : Nat) : Hd := g64hd
theorem g64Main   {α : Type} (ls : List Lf) (k : TV → List (List Seg) → List (List Seg) → Option α) :
    g64K (g64b) ls k = evFun tab (g64hd) Go.Proofs.Try.f64 (fillT g64tp ls).1 (fillB g64bp (fillT g64tp ls).2).1 k := by kernel_rfl
theorem g64Calls (m : Nat) : (g64h m).CallsOk Go.Proofs.Try.prog := cok_nil
theorem g64Fn (m : Nat) : FnOk Go.Proofs.Try.prog 64 g64tp g64bp (fun {α} => g64K (g64 (α := α) m)) :=
  fn_ok (tab := tab) (h := g64h m) (fn := Go.Proofs.Try.f64) (F := fun {α} => g64K (g64 (α := α) m)) tabOk (g64Calls m) mixed (by kernel_rfl) (by kernel_rfl) (fun c hc => by
    rw [bodyOf_some hc]
    exact loopsOk_of _ (fun p hp => by rw [show loopsOf (bodyOf Go.Proofs.Try.f64) = [] by kernel_rfl] at hp; cases hp))
    (fun α ls k => g64Main ls k)
theorem g64Ok (m : Nat) : RowOk Go.Proofs.Try.prog 64 (fun {α} => rowK g64tp g64bp (g64K (g64 (α := α) m))) := row_of (g64Fn m)

/-! ### g44: impl.ratioOk -/
def g44b {α : Type} (G_g64 : {α : Type} → Int → Int → Int → (Bool → Option α) → Option α)  (p375 : Int) (p376 : Int) (p377 : Int) (k389 : Bool → Option α) : Option α :=
  cond (p375 == (1 : Int))
   (
    G_g64 p376 (-1000000000 : Int) (1000000000 : Int)
      (fun b385 =>
        cond b385
         (
          G_g64 p377 (1 : Int) (1000000000 : Int)
            (fun b386 =>
              k389 b386))
         (
          k389 false)))
   (
    cond (p376 == (0 : Int))
     (
      k389 (p377 == (0 : Int)))
     (
      k389 false))
def g44 {α : Type} (m : Nat) : Int → Int → Int → (Bool → Option α) → Option α :=
  g44b (g64 m)
def g44tp : List TP := [(.vl (.sv (.int .i8))), (.vl (.sv (.int .i64))), (.vl (.sv (.int .i64)))]
def g44bp : List BP := []
def g44K {α : Type} (G : Int → Int → Int → (Bool → Option α) → Option α) (ls : List Lf) (k : TV → List (List Seg) → List (List Seg) → Option α) : Option α :=
  G (lf ls 0).int (lf ls 1).int (lf ls 2).int
    (fun y0 => k (.vl (.sv (.bool y0))) [] [])
def g44hd (G_g64 : {α : Type} → Int → Int → Int → (Bool → Option α) → Option α)  : Hd where
  call := fun f args Bs k => cond (Nat.beq f 64) (rowK g64tp g64bp (g64K G_g64) args Bs k) (none)
  loop := fun id st k => none
  ro := fun f => []
def g44h (m : Nat) : Hd := g44hd (g64 m)
theorem g44Main (G_g64 : {α : Type} → Int → Int → Int → (Bool → Option α) → Option α)  {α : Type} (ls : List Lf) (k : TV → List (List Seg) → List (List Seg) → Option α) :
    g44K (g44b G_g64) ls k = evFun tab (g44hd G_g64) Go.Proofs.Try.f44 (fillT g44tp ls).1 (fillB g44bp (fillT g44tp ls).2).1 k := by kernel_rfl
theorem g44Calls (m : Nat) : (g44h m).CallsOk Go.Proofs.Try.prog := (cok_cons (g64Ok m) cok_nil)
theorem g44Fn (m : Nat) : FnOk Go.Proofs.Try.prog 44 g44tp g44bp (fun {α} => g44K (g44 (α := α) m)) :=
  fn_ok (tab := tab) (h := g44h m) (fn := Go.Proofs.Try.f44) (F := fun {α} => g44K (g44 (α := α) m)) tabOk (g44Calls m) mixed (by kernel_rfl) (by kernel_rfl) (fun c hc => by
    rw [bodyOf_some hc]
    exact loopsOk_of _ (fun p hp => by rw [show loopsOf (bodyOf Go.Proofs.Try.f44) = [] by kernel_rfl] at hp; cases hp))
    (fun α ls k => g44Main (g64 m) ls k)
theorem g44Ok (m : Nat) : RowOk Go.Proofs.Try.prog 44 (fun {α} => rowK g44tp g44bp (g44K (g44 (α := α) m))) := row_of (g44Fn m)

/-! ### g45: impl.earlier -/
def g45b {α : Type}   (p392 : Int) (p393 : Int) (q394 : Bool) (k400 : Bool → Option α) : Option α :=
  cond (!q394)
   (
    k400 (p392 == (0 : Int)))
   (
    cond (decide (p392 ≥ (0 : Int)))
     (
      k400 (decide ((IntKind.wrap .i64 p392) < p393)))
     (
      k400 false))
def g45 {α : Type} (m : Nat) : Int → Int → Bool → (Bool → Option α) → Option α :=
  g45b
def g45tp : List TP := [(.vl (.sv (.int .i16))), (.vl (.sv (.int .i64))), (.vl (.sv .bool))]
def g45bp : List BP := []
def g45K {α : Type} (G : Int → Int → Bool → (Bool → Option α) → Option α) (ls : List Lf) (k : TV → List (List Seg) → List (List Seg) → Option α) : Option α :=
  G (lf ls 0).int (lf ls 1).int (lf ls 2).bool
    (fun y0 => k (.vl (.sv (.bool y0))) [] [])
def g45hd   : Hd where
  call := fun f args Bs k => none
  loop := fun id st k => none
  ro := fun f => []
def g45h (m : Nat) : Hd := g45hd
theorem g45Main   {α : Type} (ls : List Lf) (k : TV → List (List Seg) → List (List Seg) → Option α) :
    g45K (g45b) ls k = evFun tab (g45hd) Go.Proofs.Try.f45 (fillT g45tp ls).1 (fillB g45bp (fillT g45tp ls).2).1 k := by kernel_rfl
theorem g45Calls (m : Nat) : (g45h m).CallsOk Go.Proofs.Try.prog := cok_nil
theorem g45Fn (m : Nat) : FnOk Go.Proofs.Try.prog 45 g45tp g45bp (fun {α} => g45K (g45 (α := α) m)) :=
  fn_ok (tab := tab) (h := g45h m) (fn := Go.Proofs.Try.f45) (F := fun {α} => g45K (g45 (α := α) m)) tabOk (g45Calls m) mixed (by kernel_rfl) (by kernel_rfl) (fun c hc => by
    rw [bodyOf_some hc]
    exact loopsOk_of _ (fun p hp => by rw [show loopsOf (bodyOf Go.Proofs.Try.f45) = [] by kernel_rfl] at hp; cases hp))
    (fun α ls k => g45Main ls k)
theorem g45Ok (m : Nat) : RowOk Go.Proofs.Try.prog 45 (fun {α} => rowK g45tp g45bp (g45K (g45 (α := α) m))) := row_of (g45Fn m)

/-! ### g17: impl.ValidTerm -/
def g17l0b {α : Type} (G_g43 : {α : Type} → Int → (Bool → Bool → Bool → Option α) → Option α) (G_g44 : {α : Type} → Int → Int → Int → (Bool → Option α) → Option α) (G_g45 : {α : Type} → Int → Int → Bool → (Bool → Option α) → Option α)  (m345 : Nat) (m346 : Nat) (m347 : Nat) (v348 : Int) (m350 : Nat) (a351 : List (List Int)) (k406 : Option α) (k407 : Option α) (r408 : Int → Option α) (v349 : Int) : Option α :=
  cond (decide (v349 < v348))
   (
    if 0 ≤ v349 ∧ v349 < (m346 : Nat) then
      if (m345 + v349.toNat) < m350 then
        let x353 : Int := (List.getD a351 (m345 + v349.toNat) []).headD 0
        G_g43 x353
          (fun b370 b371 b372 =>
            cond (decide (x353 < (1 : Int)))
             (
              k406)
             (
              cond (decide (x353 > (12 : Int)))
               (
                k406)
               (
                G_g44 x353 ((List.getD a351 (m345 + v349.toNat) []).tail.tail.tail.headD 0) ((List.getD a351 (m345 + v349.toNat) []).tail.tail.tail.tail.headD 0)
                  (fun b390 =>
                    cond (!b390)
                     (
                      k406)
                     (
                      G_g45 ((List.getD a351 (m345 + v349.toNat) []).tail.headD 0) v349 b370
                        (fun b401 =>
                          cond (!b401)
                           (
                            k406)
                           (
                            G_g45 ((List.getD a351 (m345 + v349.toNat) []).tail.tail.headD 0) v349 b371
                              (fun b403 =>
                                cond (!b403)
                                 (
                                  k406)
                                 (
                                  r408 (IntKind.wrap .i64 (v349 + (1 : Int))))))))))))
      else
        none
    else
      none)
   (
    k407)
def g17l0 {α : Type} (G_g43 : {α : Type} → Int → (Bool → Bool → Bool → Option α) → Option α) (G_g44 : {α : Type} → Int → Int → Int → (Bool → Option α) → Option α) (G_g45 : {α : Type} → Int → Int → Bool → (Bool → Option α) → Option α)  (m345 : Nat) (m346 : Nat) (m347 : Nat) (v348 : Int) (m350 : Nat) (a351 : List (List Int)) (k406 : Option α) (k407 : Option α) : Nat → Int → Option α
  | 0 => fun _ => none
  | m + 1 => fun v349 => g17l0b G_g43 G_g44 G_g45 m345 m346 m347 v348 m350 a351 k406 k407 (g17l0 G_g43 G_g44 G_g45 m345 m346 m347 v348 m350 a351 k406 k407 m) v349
def g17l0M {α : Type} (m : Nat) : Nat → Nat → Nat → Int → Nat → (List (List Int)) → (Option α) → (Option α) → Int → Option α :=
  fun m345 m346 m347 v348 m350 a351 k406 k407 v349 => g17l0 (g43 m) (g44 m) (g45 m) m345 m346 m347 v348 m350 a351 k406 k407 m v349
def g17l0D : LoopD := { n := 65, sl := [16, 17, 18], bl := [0], tp := [(.vl (.sv (.slc 0 0 5))), (.vl (.sv (.int .i64))), (.vl (.sv (.int .i64)))], bp := [(false, [(.seqv (.rc [.i8, .i16, .i16, .i64, .i64]))])], xs := [(1, [2], [0]), (2, [], [0])] }
def g17l0K {α : Type} (L : Nat → Nat → Nat → Int → Nat → (List (List Int)) → (Option α) → (Option α) → Int → Option α) (ls : List Lf) (k : Ex → St → Option α) : Option α :=
  L (lf ls 0).nat (lf ls 1).nat (lf ls 2).nat (lf ls 3).int (lf ls 5).nat ((lf ls 6).lst (.rc [.i8, .i16, .i16, .i64, .i64]))
    (k .ret (mkSt 65 [2] [(.vl (.sv (.bool false)))] [0] [(false, [(.seq (.rc [.i8, .i16, .i16, .i64, .i64]) (lf ls 5).nat ((lf ls 6).lst (.rc [.i8, .i16, .i16, .i64, .i64])))])]))
    (k .normal (mkSt 65 [] [] [0] [(false, [(.seq (.rc [.i8, .i16, .i16, .i64, .i64]) (lf ls 5).nat ((lf ls 6).lst (.rc [.i8, .i16, .i16, .i64, .i64])))])]))
    (lf ls 4).int
def g17b {α : Type} (G_g43 : {α : Type} → Int → (Bool → Bool → Bool → Option α) → Option α) (G_g44 : {α : Type} → Int → Int → Int → (Bool → Option α) → Option α) (G_g45 : {α : Type} → Int → Int → Bool → (Bool → Option α) → Option α) (L_g17l0 : {α : Type} → Nat → Nat → Nat → Int → Nat → (List (List Int)) → (Option α) → (Option α) → Int → Option α) (m338 : Nat) (m339 : Nat) (m340 : Nat) (m341 : Nat) (u342 : List (List Int)) (k409 : Bool → Option α) : Option α :=
  cond (decide (((m339 : Nat) : Int) < (1 : Int)))
   (
    k409 false)
   (
    cond (decide (((m339 : Nat) : Int) > (40 : Int)))
     (
      k409 false)
     (
      L_g17l0 m338 m339 m340 ((m339 : Nat) : Int) m341 u342
        (
          k409 false)
        (
          k409 true)
        (0 : Int)))
def g17 {α : Type} (m : Nat) : Nat → Nat → Nat → Nat → (List (List Int)) → (Bool → Option α) → Option α :=
  g17b (g43 m) (g44 m) (g45 m) (g17l0M m)
def g17tp : List TP := [(.vl (.sv (.slc 0 0 5)))]
def g17bp : List BP := [(false, [(.seqv (.rc [.i8, .i16, .i16, .i64, .i64]))])]
def g17K {α : Type} (G : Nat → Nat → Nat → Nat → (List (List Int)) → (Bool → Option α) → Option α) (ls : List Lf) (k : TV → List (List Seg) → List (List Seg) → Option α) : Option α :=
  G (lf ls 0).nat (lf ls 1).nat (lf ls 2).nat (lf ls 3).nat ((lf ls 4).lst (.rc [.i8, .i16, .i16, .i64, .i64]))
    (fun y0 => k (.vl (.sv (.bool y0))) [[(.seq (.rc [.i8, .i16, .i16, .i64, .i64]) (lf ls 3).nat ((lf ls 4).lst (.rc [.i8, .i16, .i16, .i64, .i64])))]] [])
def g17hd (G_g43 : {α : Type} → Int → (Bool → Bool → Bool → Option α) → Option α) (G_g44 : {α : Type} → Int → Int → Int → (Bool → Option α) → Option α) (G_g45 : {α : Type} → Int → Int → Bool → (Bool → Option α) → Option α) (L_g17l0 : {α : Type} → Nat → Nat → Nat → Int → Nat → (List (List Int)) → (Option α) → (Option α) → Int → Option α) : Hd where
  call := fun f args Bs k => cond (Nat.beq f 43) (rowK g43tp g43bp (g43K G_g43) args Bs k) (cond (Nat.beq f 44) (rowK g44tp g44bp (g44K G_g44) args Bs k) (cond (Nat.beq f 45) (rowK g45tp g45bp (g45K G_g45) args Bs k) (none)))
  loop := fun id st k => cond (Nat.beq id 0) (loopH g17l0D (g17l0K L_g17l0) st k) (none)
  ro := fun f => []
def g17h (m : Nat) : Hd := g17hd (g43 m) (g44 m) (g45 m) (g17l0M m)
theorem g17l0Step (G_g43 : {α : Type} → Int → (Bool → Bool → Bool → Option α) → Option α) (G_g44 : {α : Type} → Int → Int → Int → (Bool → Option α) → Option α) (G_g45 : {α : Type} → Int → Int → Bool → (Bool → Option α) → Option α) (L_g17l0 : {α : Type} → Nat → Nat → Nat → Int → Nat → (List (List Int)) → (Option α) → (Option α) → Int → Option α) {α : Type} (L : Nat → Nat → Nat → Int → Nat → (List (List Int)) → (Option α) → (Option α) → Int → Option α) (ls : List Lf) (k : Ex → St → Option α) :
    g17l0K (fun m345 m346 m347 v348 m350 a351 k406 k407 v349 => g17l0b G_g43 G_g44 G_g45 m345 m346 m347 v348 m350 a351 k406 k407 (L m345 m346 m347 v348 m350 a351 k406 k407) v349) ls k = ev tab (g17hd G_g43 G_g44 G_g45 L_g17l0) (bodyAt Go.Proofs.Try.f17 0) (atHead g17l0D ls) (loopK g17l0D 0 (loopH g17l0D (g17l0K L)) k) := by kernel_rfl
theorem g17Main (G_g43 : {α : Type} → Int → (Bool → Bool → Bool → Option α) → Option α) (G_g44 : {α : Type} → Int → Int → Int → (Bool → Option α) → Option α) (G_g45 : {α : Type} → Int → Int → Bool → (Bool → Option α) → Option α) (L_g17l0 : {α : Type} → Nat → Nat → Nat → Int → Nat → (List (List Int)) → (Option α) → (Option α) → Int → Option α) {α : Type} (ls : List Lf) (k : TV → List (List Seg) → List (List Seg) → Option α) :
    g17K (g17b G_g43 G_g44 G_g45 L_g17l0) ls k = evFun tab (g17hd G_g43 G_g44 G_g45 L_g17l0) Go.Proofs.Try.f17 (fillT g17tp ls).1 (fillB g17bp (fillT g17tp ls).2).1 k := by kernel_rfl
theorem g17Calls (m : Nat) : (g17h m).CallsOk Go.Proofs.Try.prog := (cok_cons (g43Ok m) (cok_cons (g44Ok m) (cok_cons (g45Ok m) cok_nil)))
theorem g17l0Ok (m : Nat) (α : Type) (st : St) (k : Ex → St → Option α) (r : α) (h : (g17h m).loop 0 st k = some r) :
    ∃ e st', k e st' = some r ∧ CodeS Go.Proofs.Try.prog (.block 0 (.loop (bodyAt Go.Proofs.Try.f17 0))) st e st' :=
  loop_ok (tab := tab) (h := g17h m) (F := fun n ls k => g17l0K (fun m345 m346 m347 v348 m350 a351 k406 k407 v349 => g17l0 (g43 m) (g44 m) (g45 m) m345 m346 m347 v348 m350 a351 k406 k407 n v349) ls k) tabOk (g17Calls m) mixed (loopsOk_of _ (fun p hp => by rw [show loopsOf (bodyAt Go.Proofs.Try.f17 0) = [] by kernel_rfl] at hp; cases hp))
    (fun _ _ => rfl) (fun n ls k => g17l0Step (g43 m) (g44 m) (g45 m) (g17l0M m) (fun m345 m346 m347 v348 m350 a351 k406 k407 => g17l0 (g43 m) (g44 m) (g45 m) m345 m346 m347 v348 m350 a351 k406 k407 n) ls k) (n := m) h
theorem g17Fn (m : Nat) : FnOk Go.Proofs.Try.prog 17 g17tp g17bp (fun {α} => g17K (g17 (α := α) m)) :=
  fn_ok (tab := tab) (h := g17h m) (fn := Go.Proofs.Try.f17) (F := fun {α} => g17K (g17 (α := α) m)) tabOk (g17Calls m) mixed (by kernel_rfl) (by kernel_rfl) (fun c hc => by
    rw [bodyOf_some hc]
    exact loopsOk_of _ (fun p hp => by
    rw [show loopsOf (bodyOf Go.Proofs.Try.f17) = [(0, bodyAt Go.Proofs.Try.f17 0)] by kernel_rfl] at hp
    simp only [List.mem_cons, List.not_mem_nil, or_false] at hp
    rcases hp with rfl
    exact g17l0Ok m))
    (fun α ls k => g17Main (g43 m) (g44 m) (g45 m) (g17l0M m) ls k)
theorem g17Ok (m : Nat) : RowOk Go.Proofs.Try.prog 17 (fun {α} => rowK g17tp g17bp (g17K (g17 (α := α) m))) := row_of (g17Fn m)

/-! ### g4: laws.FnExactValidTerm -/
def g4b {α : Type} (G_g11 : {α : Type} → Nat → Nat → Nat → Int → Nat → (List (List Int)) → (Int → Option α) → Option α) (G_g13 : {α : Type} → Nat → Nat → Nat → Nat → (List (List Int)) → ((List (List Int)) → Option α) → Option α) (G_g16 : {α : Type} → Nat → Nat → Nat → Nat → (List (List Int)) → (Bool → Option α) → Option α) (G_g17 : {α : Type} → Nat → Nat → Nat → Nat → (List (List Int)) → (Bool → Option α) → Option α) (G_g15 : {α : Type} → Nat → Nat → Nat → Nat → Nat → Nat → Nat → (List (List Int)) → Nat → (List (List Int)) → (Bool → Option α) → Option α)  (m220 : Nat) (m221 : Nat) (m222 : Nat) (m223 : Nat) (u224 : List (List Int)) (k415 : Bool → Option α) : Option α :=
  G_g11 m220 m221 m222 (1048576 : Int) m223 u224
    (fun x225 =>
      cond (decide (x225 < (0 : Int)))
       (
        k415 true)
       (
        G_g13 m220 m221 m222 m223 u224
          (fun l227 =>
            G_g16 0 m221 m221 m221 l227
              (fun b336 =>
                G_g13 m220 m221 m222 m223 u224
                  (fun l337 =>
                    G_g17 0 m221 m221 m221 l337
                      (fun b410 =>
                        cond (!(b410 == b336))
                         (
                          k415 false)
                         (
                          G_g13 m220 m221 m222 m223 u224
                            (fun l412 =>
                              G_g15 0 m221 m221 0 m221 m221 m221 l337 m221 l412
                                (fun b413 =>
                                  cond (!b413)
                                   (
                                    k415 false)
                                   (
                                    k415 true))))))))))
def g4 {α : Type} (m : Nat) : Nat → Nat → Nat → Nat → (List (List Int)) → (Bool → Option α) → Option α :=
  g4b (g11 m) (g13 m) (g16 m) (g17 m) (g15 m)
def g4tp : List TP := [(.vl (.sv (.slc 0 0 5)))]
def g4bp : List BP := [(false, [(.seqv (.rc [.i8, .i16, .i16, .i64, .i64]))])]
def g4K {α : Type} (G : Nat → Nat → Nat → Nat → (List (List Int)) → (Bool → Option α) → Option α) (ls : List Lf) (k : TV → List (List Seg) → List (List Seg) → Option α) : Option α :=
  G (lf ls 0).nat (lf ls 1).nat (lf ls 2).nat (lf ls 3).nat ((lf ls 4).lst (.rc [.i8, .i16, .i16, .i64, .i64]))
    (fun y0 => k (.vl (.sv (.bool y0))) [[(.seq (.rc [.i8, .i16, .i16, .i64, .i64]) (lf ls 3).nat ((lf ls 4).lst (.rc [.i8, .i16, .i16, .i64, .i64])))]] [])
def g4hd (G_g11 : {α : Type} → Nat → Nat → Nat → Int → Nat → (List (List Int)) → (Int → Option α) → Option α) (G_g13 : {α : Type} → Nat → Nat → Nat → Nat → (List (List Int)) → ((List (List Int)) → Option α) → Option α) (G_g16 : {α : Type} → Nat → Nat → Nat → Nat → (List (List Int)) → (Bool → Option α) → Option α) (G_g17 : {α : Type} → Nat → Nat → Nat → Nat → (List (List Int)) → (Bool → Option α) → Option α) (G_g15 : {α : Type} → Nat → Nat → Nat → Nat → Nat → Nat → Nat → (List (List Int)) → Nat → (List (List Int)) → (Bool → Option α) → Option α)  : Hd where
  call := fun f args Bs k => cond (Nat.beq f 11) (rowK g11tp g11bp (g11K G_g11) args Bs k) (cond (Nat.beq f 13) (rowK g13tp g13bp (g13K G_g13) args Bs k) (cond (Nat.beq f 16) (rowK g16tp g16bp (g16K G_g16) args Bs k) (cond (Nat.beq f 17) (rowK g17tp g17bp (g17K G_g17) args Bs k) (cond (Nat.beq f 15) (rowK g15tp g15bp (g15K G_g15) args Bs k) (none)))))
  loop := fun id st k => none
  ro := fun f => cond (Nat.beq f 11) [0] (cond (Nat.beq f 13) [0] (cond (Nat.beq f 15) [0, 1] (cond (Nat.beq f 16) [0] (cond (Nat.beq f 17) [0] ([])))))
def g4h (m : Nat) : Hd := g4hd (g11 m) (g13 m) (g16 m) (g17 m) (g15 m)
theorem g4Main (G_g11 : {α : Type} → Nat → Nat → Nat → Int → Nat → (List (List Int)) → (Int → Option α) → Option α) (G_g13 : {α : Type} → Nat → Nat → Nat → Nat → (List (List Int)) → ((List (List Int)) → Option α) → Option α) (G_g16 : {α : Type} → Nat → Nat → Nat → Nat → (List (List Int)) → (Bool → Option α) → Option α) (G_g17 : {α : Type} → Nat → Nat → Nat → Nat → (List (List Int)) → (Bool → Option α) → Option α) (G_g15 : {α : Type} → Nat → Nat → Nat → Nat → Nat → Nat → Nat → (List (List Int)) → Nat → (List (List Int)) → (Bool → Option α) → Option α)  {α : Type} (ls : List Lf) (k : TV → List (List Seg) → List (List Seg) → Option α) :
    g4K (g4b G_g11 G_g13 G_g16 G_g17 G_g15) ls k = evFun tab (g4hd G_g11 G_g13 G_g16 G_g17 G_g15) Go.Proofs.Try.f4 (fillT g4tp ls).1 (fillB g4bp (fillT g4tp ls).2).1 k := by kernel_rfl
theorem g4Calls (m : Nat) : (g4h m).CallsOk Go.Proofs.Try.prog := (cok_cons (g11Ok m) (cok_cons (g13Ok m) (cok_cons (g16Ok m) (cok_cons (g17Ok m) (cok_cons (g15Ok m) cok_nil)))))
theorem g4Fn (m : Nat) : FnOk Go.Proofs.Try.prog 4 g4tp g4bp (fun {α} => g4K (g4 (α := α) m)) :=
  fn_ok (tab := tab) (h := g4h m) (fn := Go.Proofs.Try.f4) (F := fun {α} => g4K (g4 (α := α) m)) tabOk (g4Calls m) mixed (by kernel_rfl) (by kernel_rfl) (fun c hc => by
    rw [bodyOf_some hc]
    exact loopsOk_of _ (fun p hp => by rw [show loopsOf (bodyOf Go.Proofs.Try.f4) = [] by kernel_rfl] at hp; cases hp))
    (fun α ls k => g4Main (g11 m) (g13 m) (g16 m) (g17 m) (g15 m) ls k)
theorem g4Ok (m : Nat) : RowOk Go.Proofs.Try.prog 4 (fun {α} => rowK g4tp g4bp (g4K (g4 (α := α) m))) := row_of (g4Fn m)

/-! ### g48: laws.toUint32A6 -/
def g48l0b {α : Type}   (a428 : List Int) (a429 : List Int) (k435 : (List Int) → Option α) (r436 : Int → (List Int) → Option α) (v427 : Int) (a430 : List Int) : Option α :=
  cond (decide (v427 < (6 : Int)))
   (
    if 0 ≤ v427 ∧ v427 < (6 : Nat) then
      if v427.toNat < 6 then
        if 0 ≤ v427 ∧ v427 < (6 : Nat) then
          if v427.toNat < 6 then
            r436 (IntKind.wrap .i64 (v427 + (1 : Int))) (List.set a430 (v427.toNat) (List.getD a428 v427.toNat 0))
          else
            none
        else
          none
      else
        none
    else
      none)
   (
    k435 a430)
def g48l0 {α : Type}   (a428 : List Int) (a429 : List Int) (k435 : (List Int) → Option α) : Nat → Int → (List Int) → Option α
  | 0 => fun _ _ => none
  | m + 1 => fun v427 a430 => g48l0b a428 a429 k435 (g48l0 a428 a429 k435 m) v427 a430
def g48l0M {α : Type} (m : Nat) : (List Int) → (List Int) → ((List Int) → Option α) → Int → (List Int) → Option α :=
  fun a428 a429 k435 v427 a430 => g48l0 a428 a429 k435 m v427 a430
def g48l0D : LoopD := { n := 15, sl := [1, 2, 3, 4], bl := [1001, 1002, 1003], tp := [(.vl (.sv (.ptr 1001 0))), (.vl (.sv (.ptr 1002 0))), (.vl (.sv (.ptr 1003 0))), (.vl (.sv (.int .i64)))], bp := [(true, [(.seq (.int .u32) 6)]), (true, [(.seq (.int .u32) 6)]), (true, [(.seq (.int .u32) 6)])], xs := [(2, [2, 3], [1002, 1003])] }
def g48l0K {α : Type} (L : (List Int) → (List Int) → ((List Int) → Option α) → Int → (List Int) → Option α) (ls : List Lf) (k : Ex → St → Option α) : Option α :=
  L ((lf ls 1).lst (.int .u32)) ((lf ls 2).lst (.int .u32))
    (fun y1 => k .normal (mkSt 15 [2, 3] [(.vl (.sv (.ptr 1002 0))), (.vl (.sv (.ptr 1003 0)))] [1002, 1003] [(true, [(.seq (.int .u32) 6 ((lf ls 2).lst (.int .u32)))]), (true, [(.seq (.int .u32) 6 y1)])]))
    (lf ls 0).int ((lf ls 3).lst (.int .u32))
def g48b {α : Type}  (L_g48l0 : {α : Type} → (List Int) → (List Int) → ((List Int) → Option α) → Int → (List Int) → Option α) (u426 : List Int) (k438 : (List Int) → Option α) : Option α :=
  L_g48l0 u426 [0, 0, 0, 0, 0, 0]
    (fun l437 =>
      k438 l437)
    (0 : Int) [0, 0, 0, 0, 0, 0]
def g48 {α : Type} (m : Nat) : (List Int) → ((List Int) → Option α) → Option α :=
  g48b (g48l0M m)
def g48tp : List TP := [(.vl (.agg [(.seq (.int .u32) 6)]))]
def g48bp : List BP := []
def g48K {α : Type} (G : (List Int) → ((List Int) → Option α) → Option α) (ls : List Lf) (k : TV → List (List Seg) → List (List Seg) → Option α) : Option α :=
  G ((lf ls 0).lst (.int .u32))
    (fun y0 => k (.vl (.agg [(.seq (.int .u32) 6 y0)])) [] [])
def g48hd  (L_g48l0 : {α : Type} → (List Int) → (List Int) → ((List Int) → Option α) → Int → (List Int) → Option α) : Hd where
  call := fun f args Bs k => none
  loop := fun id st k => cond (Nat.beq id 0) (loopH g48l0D (g48l0K L_g48l0) st k) (none)
  ro := fun f => []
def g48h (m : Nat) : Hd := g48hd (g48l0M m)
theorem g48l0Step  (L_g48l0 : {α : Type} → (List Int) → (List Int) → ((List Int) → Option α) → Int → (List Int) → Option α) {α : Type} (L : (List Int) → (List Int) → ((List Int) → Option α) → Int → (List Int) → Option α) (ls : List Lf) (k : Ex → St → Option α) :
    g48l0K (fun a428 a429 k435 v427 a430 => g48l0b a428 a429 k435 (L a428 a429 k435) v427 a430) ls k = ev tab (g48hd L_g48l0) (bodyAt Go.Proofs.Try.f48 0) (atHead g48l0D ls) (loopK g48l0D 0 (loopH g48l0D (g48l0K L)) k) := by kernel_rfl
theorem g48Main  (L_g48l0 : {α : Type} → (List Int) → (List Int) → ((List Int) → Option α) → Int → (List Int) → Option α) {α : Type} (ls : List Lf) (k : TV → List (List Seg) → List (List Seg) → Option α) :
    g48K (g48b L_g48l0) ls k = evFun tab (g48hd L_g48l0) Go.Proofs.Try.f48 (fillT g48tp ls).1 (fillB g48bp (fillT g48tp ls).2).1 k := by kernel_rfl
theorem g48Calls (m : Nat) : (g48h m).CallsOk Go.Proofs.Try.prog := cok_nil
theorem g48l0Ok (m : Nat) (α : Type) (st : St) (k : Ex → St → Option α) (r : α) (h : (g48h m).loop 0 st k = some r) :
    ∃ e st', k e st' = some r ∧ CodeS Go.Proofs.Try.prog (.block 0 (.loop (bodyAt Go.Proofs.Try.f48 0))) st e st' :=
  loop_ok (tab := tab) (h := g48h m) (F := fun n ls k => g48l0K (fun a428 a429 k435 v427 a430 => g48l0 a428 a429 k435 n v427 a430) ls k) tabOk (g48Calls m) mixed (loopsOk_of _ (fun p hp => by rw [show loopsOf (bodyAt Go.Proofs.Try.f48 0) = [] by kernel_rfl] at hp; cases hp))
    (fun _ _ => rfl) (fun n ls k => g48l0Step (g48l0M m) (fun a428 a429 k435 => g48l0 a428 a429 k435 n) ls k) (n := m) h
theorem g48Fn (m : Nat) : FnOk Go.Proofs.Try.prog 48 g48tp g48bp (fun {α} => g48K (g48 (α := α) m)) :=
  fn_ok (tab := tab) (h := g48h m) (fn := Go.Proofs.Try.f48) (F := fun {α} => g48K (g48 (α := α) m)) tabOk (g48Calls m) mixed (by kernel_rfl) (by kernel_rfl) (fun c hc => by
    rw [bodyOf_some hc]
    exact loopsOk_of _ (fun p hp => by
    rw [show loopsOf (bodyOf Go.Proofs.Try.f48) = [(0, bodyAt Go.Proofs.Try.f48 0)] by kernel_rfl] at hp
    simp only [List.mem_cons, List.not_mem_nil, or_false] at hp
    rcases hp with rfl
    exact g48l0Ok m))
    (fun α ls k => g48Main (g48l0M m) ls k)
theorem g48Ok (m : Nat) : RowOk Go.Proofs.Try.prog 48 (fun {α} => rowK g48tp g48bp (g48K (g48 (α := α) m))) := row_of (g48Fn m)

/-! ### g19: laws.toWide -/
def g19b {α : Type} (G_g48 : {α : Type} → (List Int) → ((List Int) → Option α) → Option α)  (q424 : Bool) (u425 : List Int) (k440 : (List Int) → Option α) : Option α :=
  G_g48 u425
    (fun l439 =>
      k440 l439)
def g19 {α : Type} (m : Nat) : Bool → (List Int) → ((List Int) → Option α) → Option α :=
  g19b (g48 m)
def g19tp : List TP := [(.vl (.agg [(.one .bool), (.seq (.int .u32) 6)]))]
def g19bp : List BP := []
def g19K {α : Type} (G : Bool → (List Int) → ((List Int) → Option α) → Option α) (ls : List Lf) (k : TV → List (List Seg) → List (List Seg) → Option α) : Option α :=
  G (lf ls 0).bool ((lf ls 1).lst (.int .u32))
    (fun y1 => k (.vl (.agg [(.one (.bool (lf ls 0).bool)), (.seq (.int .u32) 6 y1)])) [] [])
def g19hd (G_g48 : {α : Type} → (List Int) → ((List Int) → Option α) → Option α)  : Hd where
  call := fun f args Bs k => cond (Nat.beq f 48) (rowK g48tp g48bp (g48K G_g48) args Bs k) (none)
  loop := fun id st k => none
  ro := fun f => []
def g19h (m : Nat) : Hd := g19hd (g48 m)
theorem g19Main (G_g48 : {α : Type} → (List Int) → ((List Int) → Option α) → Option α)  {α : Type} (ls : List Lf) (k : TV → List (List Seg) → List (List Seg) → Option α) :
    g19K (g19b G_g48) ls k = evFun tab (g19hd G_g48) Go.Proofs.Try.f19 (fillT g19tp ls).1 (fillB g19bp (fillT g19tp ls).2).1 k := by kernel_rfl
theorem g19Calls (m : Nat) : (g19h m).CallsOk Go.Proofs.Try.prog := (cok_cons (g48Ok m) cok_nil)
theorem g19Fn (m : Nat) : FnOk Go.Proofs.Try.prog 19 g19tp g19bp (fun {α} => g19K (g19 (α := α) m)) :=
  fn_ok (tab := tab) (h := g19h m) (fn := Go.Proofs.Try.f19) (F := fun {α} => g19K (g19 (α := α) m)) tabOk (g19Calls m) mixed (by kernel_rfl) (by kernel_rfl) (fun c hc => by
    rw [bodyOf_some hc]
    exact loopsOk_of _ (fun p hp => by rw [show loopsOf (bodyOf Go.Proofs.Try.f19) = [] by kernel_rfl] at hp; cases hp))
    (fun α ls k => g19Main (g48 m) ls k)
theorem g19Ok (m : Nat) : RowOk Go.Proofs.Try.prog 19 (fun {α} => rowK g19tp g19bp (g19K (g19 (α := α) m))) := row_of (g19Fn m)

/-! ### g20: laws.toInt8S -/
def g20l0b {α : Type}   (m448 : Nat) (m449 : Nat) (m450 : Nat) (m451 : Nat) (m452 : Nat) (m453 : Nat) (m455 : Nat) (a456 : List Int) (m457 : Nat) (k463 : (List Int) → Option α) (r464 : Int → (List Int) → Option α) (v454 : Int) (a458 : List Int) : Option α :=
  cond (decide (v454 < ((m449 : Nat) : Int)))
   (
    if 0 ≤ v454 ∧ v454 < (m449 : Nat) then
      if (m448 + v454.toNat) < m455 then
        if 0 ≤ v454 ∧ v454 < (m452 : Nat) then
          if (m451 + v454.toNat) < m457 then
            r464 (IntKind.wrap .i64 (v454 + (1 : Int))) (List.set a458 (m451 + v454.toNat) (List.getD a456 (m448 + v454.toNat) 0))
          else
            none
        else
          none
      else
        none
    else
      none)
   (
    k463 a458)
def g20l0 {α : Type}   (m448 : Nat) (m449 : Nat) (m450 : Nat) (m451 : Nat) (m452 : Nat) (m453 : Nat) (m455 : Nat) (a456 : List Int) (m457 : Nat) (k463 : (List Int) → Option α) : Nat → Int → (List Int) → Option α
  | 0 => fun _ _ => none
  | m + 1 => fun v454 a458 => g20l0b m448 m449 m450 m451 m452 m453 m455 a456 m457 k463 (g20l0 m448 m449 m450 m451 m452 m453 m455 a456 m457 k463 m) v454 a458
def g20l0M {α : Type} (m : Nat) : Nat → Nat → Nat → Nat → Nat → Nat → Nat → (List Int) → Nat → ((List Int) → Option α) → Int → (List Int) → Option α :=
  fun m448 m449 m450 m451 m452 m453 m455 a456 m457 k463 v454 a458 => g20l0 m448 m449 m450 m451 m452 m453 m455 a456 m457 k463 m v454 a458
def g20l0D : LoopD := { n := 22, sl := [0, 3, 4], bl := [0, 1007], tp := [(.vl (.sv (.slc 0 0 1))), (.vl (.sv (.slc 1007 0 1))), (.vl (.sv (.int .i64)))], bp := [(false, [(.seqv (.int .i8))]), (true, [(.seqv (.int .i8))])], xs := [(2, [3], [0, 1007])] }
def g20l0K {α : Type} (L : Nat → Nat → Nat → Nat → Nat → Nat → Nat → (List Int) → Nat → ((List Int) → Option α) → Int → (List Int) → Option α) (ls : List Lf) (k : Ex → St → Option α) : Option α :=
  L (lf ls 0).nat (lf ls 1).nat (lf ls 2).nat (lf ls 3).nat (lf ls 4).nat (lf ls 5).nat (lf ls 7).nat ((lf ls 8).lst (.int .i8)) (lf ls 9).nat
    (fun y6 => k .normal (mkSt 22 [3] [(.vl (.sv (.slc 1007 0 1 (lf ls 3).nat (lf ls 4).nat (lf ls 5).nat)))] [0, 1007] [(false, [(.seq (.int .i8) (lf ls 7).nat ((lf ls 8).lst (.int .i8)))]), (true, [(.seq (.int .i8) (lf ls 9).nat y6)])]))
    (lf ls 6).int ((lf ls 10).lst (.int .i8))
def g20b {α : Type}  (L_g20l0 : {α : Type} → Nat → Nat → Nat → Nat → Nat → Nat → Nat → (List Int) → Nat → ((List Int) → Option α) → Int → (List Int) → Option α) (m442 : Nat) (m443 : Nat) (m444 : Nat) (m445 : Nat) (u446 : List Int) (k466 : (List Int) → Option α) : Option α :=
  if ((m443 : Nat) : Int) = ((m443 : Nat) : Int) ∧ 0 ≤ ((m443 : Nat) : Int) ∧ ((m443 : Nat) : Int) ≤ 1048576 then
    L_g20l0 m442 m443 m444 0 m443 m443 m445 u446 m443
      (fun l465 =>
        k466 l465)
      (0 : Int) (List.replicate m443 (0 : Int))
  else
    none
def g20 {α : Type} (m : Nat) : Nat → Nat → Nat → Nat → (List Int) → ((List Int) → Option α) → Option α :=
  g20b (g20l0M m)
def g20tp : List TP := [(.vl (.sv (.slc 0 0 1)))]
def g20bp : List BP := [(false, [(.seqv (.int .i8))])]
def g20K {α : Type} (G : Nat → Nat → Nat → Nat → (List Int) → ((List Int) → Option α) → Option α) (ls : List Lf) (k : TV → List (List Seg) → List (List Seg) → Option α) : Option α :=
  G (lf ls 0).nat (lf ls 1).nat (lf ls 2).nat (lf ls 3).nat ((lf ls 4).lst (.int .i8))
    (fun y6 => k (.vl (.sv (.slc 1 0 1 0 (lf ls 1).nat (lf ls 1).nat))) [[(.seq (.int .i8) (lf ls 3).nat ((lf ls 4).lst (.int .i8)))]] [[(.seq (.int .i8) (lf ls 1).nat y6)]])
def g20hd  (L_g20l0 : {α : Type} → Nat → Nat → Nat → Nat → Nat → Nat → Nat → (List Int) → Nat → ((List Int) → Option α) → Int → (List Int) → Option α) : Hd where
  call := fun f args Bs k => none
  loop := fun id st k => cond (Nat.beq id 0) (loopH g20l0D (g20l0K L_g20l0) st k) (none)
  ro := fun f => []
def g20h (m : Nat) : Hd := g20hd (g20l0M m)
theorem g20l0Step  (L_g20l0 : {α : Type} → Nat → Nat → Nat → Nat → Nat → Nat → Nat → (List Int) → Nat → ((List Int) → Option α) → Int → (List Int) → Option α) {α : Type} (L : Nat → Nat → Nat → Nat → Nat → Nat → Nat → (List Int) → Nat → ((List Int) → Option α) → Int → (List Int) → Option α) (ls : List Lf) (k : Ex → St → Option α) :
    g20l0K (fun m448 m449 m450 m451 m452 m453 m455 a456 m457 k463 v454 a458 => g20l0b m448 m449 m450 m451 m452 m453 m455 a456 m457 k463 (L m448 m449 m450 m451 m452 m453 m455 a456 m457 k463) v454 a458) ls k = ev tab (g20hd L_g20l0) (bodyAt Go.Proofs.Try.f20 0) (atHead g20l0D ls) (loopK g20l0D 0 (loopH g20l0D (g20l0K L)) k) := by kernel_rfl
theorem g20Main  (L_g20l0 : {α : Type} → Nat → Nat → Nat → Nat → Nat → Nat → Nat → (List Int) → Nat → ((List Int) → Option α) → Int → (List Int) → Option α) {α : Type} (ls : List Lf) (k : TV → List (List Seg) → List (List Seg) → Option α) :
    g20K (g20b L_g20l0) ls k = evFun tab (g20hd L_g20l0) Go.Proofs.Try.f20 (fillT g20tp ls).1 (fillB g20bp (fillT g20tp ls).2).1 k := by kernel_rfl
theorem g20Calls (m : Nat) : (g20h m).CallsOk Go.Proofs.Try.prog := cok_nil
theorem g20l0Ok (m : Nat) (α : Type) (st : St) (k : Ex → St → Option α) (r : α) (h : (g20h m).loop 0 st k = some r) :
    ∃ e st', k e st' = some r ∧ CodeS Go.Proofs.Try.prog (.block 0 (.loop (bodyAt Go.Proofs.Try.f20 0))) st e st' :=
  loop_ok (tab := tab) (h := g20h m) (F := fun n ls k => g20l0K (fun m448 m449 m450 m451 m452 m453 m455 a456 m457 k463 v454 a458 => g20l0 m448 m449 m450 m451 m452 m453 m455 a456 m457 k463 n v454 a458) ls k) tabOk (g20Calls m) mixed (loopsOk_of _ (fun p hp => by rw [show loopsOf (bodyAt Go.Proofs.Try.f20 0) = [] by kernel_rfl] at hp; cases hp))
    (fun _ _ => rfl) (fun n ls k => g20l0Step (g20l0M m) (fun m448 m449 m450 m451 m452 m453 m455 a456 m457 k463 => g20l0 m448 m449 m450 m451 m452 m453 m455 a456 m457 k463 n) ls k) (n := m) h
theorem g20Fn (m : Nat) : FnOk Go.Proofs.Try.prog 20 g20tp g20bp (fun {α} => g20K (g20 (α := α) m)) :=
  fn_ok (tab := tab) (h := g20h m) (fn := Go.Proofs.Try.f20) (F := fun {α} => g20K (g20 (α := α) m)) tabOk (g20Calls m) mixed (by kernel_rfl) (by kernel_rfl) (fun c hc => by
    rw [bodyOf_some hc]
    exact loopsOk_of _ (fun p hp => by
    rw [show loopsOf (bodyOf Go.Proofs.Try.f20) = [(0, bodyAt Go.Proofs.Try.f20 0)] by kernel_rfl] at hp
    simp only [List.mem_cons, List.not_mem_nil, or_false] at hp
    rcases hp with rfl
    exact g20l0Ok m))
    (fun α ls k => g20Main (g20l0M m) ls k)
theorem g20Ok (m : Nat) : RowOk Go.Proofs.Try.prog 20 (fun {α} => rowK g20tp g20bp (g20K (g20 (α := α) m))) := row_of (g20Fn m)

/-! ### g46: spec.l01Ok -/
def g46b {α : Type}   (q475 : Bool) (u476 : List Int) (k479 : Bool → Option α) : Option α :=
  cond (!q475)
   (
    k479 true)
   (
    k479 (!(eqLI u476 [0, 0, 0, 0, 0, 0])))
def g46 {α : Type} (m : Nat) : Bool → (List Int) → (Bool → Option α) → Option α :=
  g46b
def g46tp : List TP := [(.vl (.sv (.ptr 0 0)))]
def g46bp : List BP := [(false, [(.one .bool), (.seq (.int .u32) 6)])]
def g46K {α : Type} (G : Bool → (List Int) → (Bool → Option α) → Option α) (ls : List Lf) (k : TV → List (List Seg) → List (List Seg) → Option α) : Option α :=
  G (lf ls 0).bool ((lf ls 1).lst (.int .u32))
    (fun y0 => k (.vl (.sv (.bool y0))) [[(.one (.bool (lf ls 0).bool)), (.seq (.int .u32) 6 ((lf ls 1).lst (.int .u32)))]] [])
def g46hd   : Hd where
  call := fun f args Bs k => none
  loop := fun id st k => none
  ro := fun f => []
def g46h (m : Nat) : Hd := g46hd
theorem g46Main   {α : Type} (ls : List Lf) (k : TV → List (List Seg) → List (List Seg) → Option α) :
    g46K (g46b) ls k = evFun tab (g46hd) Go.Proofs.Try.f46 (fillT g46tp ls).1 (fillB g46bp (fillT g46tp ls).2).1 k := by kernel_rfl
theorem g46Calls (m : Nat) : (g46h m).CallsOk Go.Proofs.Try.prog := cok_nil
theorem g46Fn (m : Nat) : FnOk Go.Proofs.Try.prog 46 g46tp g46bp (fun {α} => g46K (g46 (α := α) m)) :=
  fn_ok (tab := tab) (h := g46h m) (fn := Go.Proofs.Try.f46) (F := fun {α} => g46K (g46 (α := α) m)) tabOk (g46Calls m) mixed (by kernel_rfl) (by kernel_rfl) (fun c hc => by
    rw [bodyOf_some hc]
    exact loopsOk_of _ (fun p hp => by rw [show loopsOf (bodyOf Go.Proofs.Try.f46) = [] by kernel_rfl] at hp; cases hp))
    (fun α ls k => g46Main ls k)
theorem g46Ok (m : Nat) : RowOk Go.Proofs.Try.prog 46 (fun {α} => rowK g46tp g46bp (g46K (g46 (α := α) m))) := row_of (g46Fn m)

/-! ### g89: spec.l01Plus -/
def g89l0b {α : Type}   (a529 : List Int) (a530 : List Int) (a531 : List Int) (k544 : Int → (List Int) → Option α) (r545 : Int → Int → (List Int) → Option α) (v527 : Int) (v528 : Int) (a532 : List Int) : Option α :=
  cond (decide (v528 < (6 : Int)))
   (
    if 0 ≤ v528 ∧ v528 < (6 : Nat) then
      if v528.toNat < 6 then
        if 0 ≤ v528 ∧ v528 < (6 : Nat) then
          if v528.toNat < 6 then
            let x539 : Int := IntKind.wrap .u64 ((IntKind.wrap .u64 ((IntKind.wrap .u64 (List.getD a529 v528.toNat 0)) + (IntKind.wrap .u64 (List.getD a530 v528.toNat 0)))) + v527)
            if 0 ≤ v528 ∧ v528 < (6 : Nat) then
              if v528.toNat < 6 then
                r545 (Int.fdiv x539 (2 ^ 32)) (IntKind.wrap .i64 (v528 + (1 : Int))) (List.set a532 (v528.toNat) (IntKind.wrap .u32 x539))
              else
                none
            else
              none
          else
            none
        else
          none
      else
        none
    else
      none)
   (
    k544 v527 a532)
def g89l0 {α : Type}   (a529 : List Int) (a530 : List Int) (a531 : List Int) (k544 : Int → (List Int) → Option α) : Nat → Int → Int → (List Int) → Option α
  | 0 => fun _ _ _ => none
  | m + 1 => fun v527 v528 a532 => g89l0b a529 a530 a531 k544 (g89l0 a529 a530 a531 k544 m) v527 v528 a532
def g89l0M {α : Type} (m : Nat) : (List Int) → (List Int) → (List Int) → (Int → (List Int) → Option α) → Int → Int → (List Int) → Option α :=
  fun a529 a530 a531 k544 v527 v528 a532 => g89l0 a529 a530 a531 k544 m v527 v528 a532
def g89l0D : LoopD := { n := 39, sl := [0, 1, 4, 6, 7, 8], bl := [0, 1, 1004, 1006], tp := [(.vl (.sv (.ptr 0 0))), (.vl (.sv (.ptr 1 0))), (.vl (.sv (.ptr 1004 0))), (.vl (.sv (.ptr 1006 0))), (.vl (.sv (.int .u64))), (.vl (.sv (.int .i64)))], bp := [(false, [(.seq (.int .u32) 6)]), (false, [(.seq (.int .u32) 6)]), (true, [(.seq (.int .u32) 6)]), (true, [(.seq (.int .u32) 6)])], xs := [(2, [4, 6, 7], [0, 1, 1004, 1006])] }
def g89l0K {α : Type} (L : (List Int) → (List Int) → (List Int) → (Int → (List Int) → Option α) → Int → Int → (List Int) → Option α) (ls : List Lf) (k : Ex → St → Option α) : Option α :=
  L ((lf ls 2).lst (.int .u32)) ((lf ls 3).lst (.int .u32)) ((lf ls 4).lst (.int .u32))
    (fun y0 y4 => k .normal (mkSt 39 [4, 6, 7] [(.vl (.sv (.ptr 1004 0))), (.vl (.sv (.ptr 1006 0))), (.vl (.sv (.int .u64 y0)))] [0, 1, 1004, 1006] [(false, [(.seq (.int .u32) 6 ((lf ls 2).lst (.int .u32)))]), (false, [(.seq (.int .u32) 6 ((lf ls 3).lst (.int .u32)))]), (true, [(.seq (.int .u32) 6 ((lf ls 4).lst (.int .u32)))]), (true, [(.seq (.int .u32) 6 y4)])]))
    (lf ls 0).int (lf ls 1).int ((lf ls 5).lst (.int .u32))
def g89b {α : Type}  (L_g89l0 : {α : Type} → (List Int) → (List Int) → (List Int) → (Int → (List Int) → Option α) → Int → Int → (List Int) → Option α) (u525 : List Int) (u526 : List Int) (k549 : (List Int) → Bool → Option α) : Option α :=
  L_g89l0 u525 u526 [0, 0, 0, 0, 0, 0]
    (fun x546 l547 =>
      k549 l547 (x546 == (0 : Int)))
    (0 : Int) (0 : Int) [0, 0, 0, 0, 0, 0]
def g89 {α : Type} (m : Nat) : (List Int) → (List Int) → ((List Int) → Bool → Option α) → Option α :=
  g89b (g89l0M m)
def g89tp : List TP := [(.vl (.sv (.ptr 0 0))), (.vl (.sv (.ptr 1 0)))]
def g89bp : List BP := [(false, [(.seq (.int .u32) 6)]), (false, [(.seq (.int .u32) 6)])]
def g89K {α : Type} (G : (List Int) → (List Int) → ((List Int) → Bool → Option α) → Option α) (ls : List Lf) (k : TV → List (List Seg) → List (List Seg) → Option α) : Option α :=
  G ((lf ls 0).lst (.int .u32)) ((lf ls 1).lst (.int .u32))
    (fun y0 y1 => k (.tup [(.agg [(.seq (.int .u32) 6 y0)]), (.sv (.bool y1))]) [[(.seq (.int .u32) 6 ((lf ls 0).lst (.int .u32)))], [(.seq (.int .u32) 6 ((lf ls 1).lst (.int .u32)))]] [])
def g89hd  (L_g89l0 : {α : Type} → (List Int) → (List Int) → (List Int) → (Int → (List Int) → Option α) → Int → Int → (List Int) → Option α) : Hd where
  call := fun f args Bs k => none
  loop := fun id st k => cond (Nat.beq id 0) (loopH g89l0D (g89l0K L_g89l0) st k) (none)
  ro := fun f => []
def g89h (m : Nat) : Hd := g89hd (g89l0M m)
theorem g89l0Step  (L_g89l0 : {α : Type} → (List Int) → (List Int) → (List Int) → (Int → (List Int) → Option α) → Int → Int → (List Int) → Option α) {α : Type} (L : (List Int) → (List Int) → (List Int) → (Int → (List Int) → Option α) → Int → Int → (List Int) → Option α) (ls : List Lf) (k : Ex → St → Option α) :
    g89l0K (fun a529 a530 a531 k544 v527 v528 a532 => g89l0b a529 a530 a531 k544 (L a529 a530 a531 k544) v527 v528 a532) ls k = ev tab (g89hd L_g89l0) (bodyAt Go.Proofs.Try.f89 0) (atHead g89l0D ls) (loopK g89l0D 0 (loopH g89l0D (g89l0K L)) k) := by kernel_rfl
theorem g89Main  (L_g89l0 : {α : Type} → (List Int) → (List Int) → (List Int) → (Int → (List Int) → Option α) → Int → Int → (List Int) → Option α) {α : Type} (ls : List Lf) (k : TV → List (List Seg) → List (List Seg) → Option α) :
    g89K (g89b L_g89l0) ls k = evFun tab (g89hd L_g89l0) Go.Proofs.Try.f89 (fillT g89tp ls).1 (fillB g89bp (fillT g89tp ls).2).1 k := by kernel_rfl
theorem g89Calls (m : Nat) : (g89h m).CallsOk Go.Proofs.Try.prog := cok_nil
theorem g89l0Ok (m : Nat) (α : Type) (st : St) (k : Ex → St → Option α) (r : α) (h : (g89h m).loop 0 st k = some r) :
    ∃ e st', k e st' = some r ∧ CodeS Go.Proofs.Try.prog (.block 0 (.loop (bodyAt Go.Proofs.Try.f89 0))) st e st' :=
  loop_ok (tab := tab) (h := g89h m) (F := fun n ls k => g89l0K (fun a529 a530 a531 k544 v527 v528 a532 => g89l0 a529 a530 a531 k544 n v527 v528 a532) ls k) tabOk (g89Calls m) mixed (loopsOk_of _ (fun p hp => by rw [show loopsOf (bodyAt Go.Proofs.Try.f89 0) = [] by kernel_rfl] at hp; cases hp))
    (fun _ _ => rfl) (fun n ls k => g89l0Step (g89l0M m) (fun a529 a530 a531 k544 => g89l0 a529 a530 a531 k544 n) ls k) (n := m) h
theorem g89Fn (m : Nat) : FnOk Go.Proofs.Try.prog 89 g89tp g89bp (fun {α} => g89K (g89 (α := α) m)) :=
  fn_ok (tab := tab) (h := g89h m) (fn := Go.Proofs.Try.f89) (F := fun {α} => g89K (g89 (α := α) m)) tabOk (g89Calls m) mixed (by kernel_rfl) (by kernel_rfl) (fun c hc => by
    rw [bodyOf_some hc]
    exact loopsOk_of _ (fun p hp => by
    rw [show loopsOf (bodyOf Go.Proofs.Try.f89) = [(0, bodyAt Go.Proofs.Try.f89 0)] by kernel_rfl] at hp
    simp only [List.mem_cons, List.not_mem_nil, or_false] at hp
    rcases hp with rfl
    exact g89l0Ok m))
    (fun α ls k => g89Main (g89l0M m) ls k)
theorem g89Ok (m : Nat) : RowOk Go.Proofs.Try.prog 89 (fun {α} => rowK g89tp g89bp (g89K (g89 (α := α) m))) := row_of (g89Fn m)

/-! ### g102: spec.l01Zero -/
def g102b {α : Type}   (u555 : List Int) (k557 : Bool → Option α) : Option α :=
  k557 (eqLI u555 [0, 0, 0, 0, 0, 0])
def g102 {α : Type} (m : Nat) : (List Int) → (Bool → Option α) → Option α :=
  g102b
def g102tp : List TP := [(.vl (.sv (.ptr 0 0)))]
def g102bp : List BP := [(false, [(.seq (.int .u32) 6)])]
def g102K {α : Type} (G : (List Int) → (Bool → Option α) → Option α) (ls : List Lf) (k : TV → List (List Seg) → List (List Seg) → Option α) : Option α :=
  G ((lf ls 0).lst (.int .u32))
    (fun y0 => k (.vl (.sv (.bool y0))) [[(.seq (.int .u32) 6 ((lf ls 0).lst (.int .u32)))]] [])
def g102hd   : Hd where
  call := fun f args Bs k => none
  loop := fun id st k => none
  ro := fun f => []
def g102h (m : Nat) : Hd := g102hd
theorem g102Main   {α : Type} (ls : List Lf) (k : TV → List (List Seg) → List (List Seg) → Option α) :
    g102K (g102b) ls k = evFun tab (g102hd) Go.Proofs.Try.f102 (fillT g102tp ls).1 (fillB g102bp (fillT g102tp ls).2).1 k := by kernel_rfl
theorem g102Calls (m : Nat) : (g102h m).CallsOk Go.Proofs.Try.prog := cok_nil
theorem g102Fn (m : Nat) : FnOk Go.Proofs.Try.prog 102 g102tp g102bp (fun {α} => g102K (g102 (α := α) m)) :=
  fn_ok (tab := tab) (h := g102h m) (fn := Go.Proofs.Try.f102) (F := fun {α} => g102K (g102 (α := α) m)) tabOk (g102Calls m) mixed (by kernel_rfl) (by kernel_rfl) (fun c hc => by
    rw [bodyOf_some hc]
    exact loopsOk_of _ (fun p hp => by rw [show loopsOf (bodyOf Go.Proofs.Try.f102) = [] by kernel_rfl] at hp; cases hp))
    (fun α ls k => g102Main ls k)
theorem g102Ok (m : Nat) : RowOk Go.Proofs.Try.prog 102 (fun {α} => rowK g102tp g102bp (g102K (g102 (α := α) m))) := row_of (g102Fn m)

/-! ### g88: spec.l01Made -/
def g88b {α : Type} (G_g102 : {α : Type} → (List Int) → (Bool → Option α) → Option α)  (q553 : Bool) (u554 : List Int) (k560 : Bool → Option α) : Option α :=
  cond q553
   (
    G_g102 u554
      (fun b558 =>
        k560 (!b558)))
   (
    k560 false)
def g88 {α : Type} (m : Nat) : Bool → (List Int) → (Bool → Option α) → Option α :=
  g88b (g102 m)
def g88tp : List TP := [(.vl (.sv .bool)), (.vl (.agg [(.seq (.int .u32) 6)]))]
def g88bp : List BP := []
def g88K {α : Type} (G : Bool → (List Int) → (Bool → Option α) → Option α) (ls : List Lf) (k : TV → List (List Seg) → List (List Seg) → Option α) : Option α :=
  G (lf ls 0).bool ((lf ls 1).lst (.int .u32))
    (fun y0 => k (.vl (.agg [(.one (.bool y0)), (.seq (.int .u32) 6 ((lf ls 1).lst (.int .u32)))])) [] [])
def g88hd (G_g102 : {α : Type} → (List Int) → (Bool → Option α) → Option α)  : Hd where
  call := fun f args Bs k => cond (Nat.beq f 102) (rowK g102tp g102bp (g102K G_g102) args Bs k) (none)
  loop := fun id st k => none
  ro := fun f => cond (Nat.beq f 102) [0] ([])
def g88h (m : Nat) : Hd := g88hd (g102 m)
theorem g88Main (G_g102 : {α : Type} → (List Int) → (Bool → Option α) → Option α)  {α : Type} (ls : List Lf) (k : TV → List (List Seg) → List (List Seg) → Option α) :
    g88K (g88b G_g102) ls k = evFun tab (g88hd G_g102) Go.Proofs.Try.f88 (fillT g88tp ls).1 (fillB g88bp (fillT g88tp ls).2).1 k := by kernel_rfl
theorem g88Calls (m : Nat) : (g88h m).CallsOk Go.Proofs.Try.prog := (cok_cons (g102Ok m) cok_nil)
theorem g88Fn (m : Nat) : FnOk Go.Proofs.Try.prog 88 g88tp g88bp (fun {α} => g88K (g88 (α := α) m)) :=
  fn_ok (tab := tab) (h := g88h m) (fn := Go.Proofs.Try.f88) (F := fun {α} => g88K (g88 (α := α) m)) tabOk (g88Calls m) mixed (by kernel_rfl) (by kernel_rfl) (fun c hc => by
    rw [bodyOf_some hc]
    exact loopsOk_of _ (fun p hp => by rw [show loopsOf (bodyOf Go.Proofs.Try.f88) = [] by kernel_rfl] at hp; cases hp))
    (fun α ls k => g88Main (g102 m) ls k)
theorem g88Ok (m : Nat) : RowOk Go.Proofs.Try.prog 88 (fun {α} => rowK g88tp g88bp (g88K (g88 (α := α) m))) := row_of (g88Fn m)

/-! ### g90: spec.l01Cmp -/
def g90l0b {α : Type}   (a565 : List Int) (a566 : List Int) (k575 : Int → Option α) (k576 : Option α) (r577 : Int → Option α) (v564 : Int) : Option α :=
  cond (decide (v564 ≥ (0 : Int)))
   (
    if 0 ≤ v564 ∧ v564 < (6 : Nat) then
      if v564.toNat < 6 then
        if 0 ≤ v564 ∧ v564 < (6 : Nat) then
          if v564.toNat < 6 then
            cond (decide ((List.getD a565 v564.toNat 0) < (List.getD a566 v564.toNat 0)))
             (
              k575 (-1 : Int))
             (
              if 0 ≤ v564 ∧ v564 < (6 : Nat) then
                if v564.toNat < 6 then
                  if 0 ≤ v564 ∧ v564 < (6 : Nat) then
                    if v564.toNat < 6 then
                      cond (decide ((List.getD a565 v564.toNat 0) > (List.getD a566 v564.toNat 0)))
                       (
                        k575 (1 : Int))
                       (
                        r577 (IntKind.wrap .i64 (v564 - (1 : Int))))
                    else
                      none
                  else
                    none
                else
                  none
              else
                none)
          else
            none
        else
          none
      else
        none
    else
      none)
   (
    k576)
def g90l0 {α : Type}   (a565 : List Int) (a566 : List Int) (k575 : Int → Option α) (k576 : Option α) : Nat → Int → Option α
  | 0 => fun _ => none
  | m + 1 => fun v564 => g90l0b a565 a566 k575 k576 (g90l0 a565 a566 k575 k576 m) v564
def g90l0M {α : Type} (m : Nat) : (List Int) → (List Int) → (Int → Option α) → (Option α) → Int → Option α :=
  fun a565 a566 k575 k576 v564 => g90l0 a565 a566 k575 k576 m v564
def g90l0D : LoopD := { n := 32, sl := [0, 1, 5], bl := [0, 1], tp := [(.vl (.sv (.ptr 0 0))), (.vl (.sv (.ptr 1 0))), (.vl (.sv (.int .i64)))], bp := [(false, [(.seq (.int .u32) 6)]), (false, [(.seq (.int .u32) 6)])], xs := [(1, [4], [0, 1]), (2, [], [0, 1])] }
def g90l0K {α : Type} (L : (List Int) → (List Int) → (Int → Option α) → (Option α) → Int → Option α) (ls : List Lf) (k : Ex → St → Option α) : Option α :=
  L ((lf ls 1).lst (.int .u32)) ((lf ls 2).lst (.int .u32))
    (fun y0 => k .ret (mkSt 32 [4] [(.vl (.sv (.int .i64 y0)))] [0, 1] [(false, [(.seq (.int .u32) 6 ((lf ls 1).lst (.int .u32)))]), (false, [(.seq (.int .u32) 6 ((lf ls 2).lst (.int .u32)))])]))
    (k .normal (mkSt 32 [] [] [0, 1] [(false, [(.seq (.int .u32) 6 ((lf ls 1).lst (.int .u32)))]), (false, [(.seq (.int .u32) 6 ((lf ls 2).lst (.int .u32)))])]))
    (lf ls 0).int
def g90b {α : Type}  (L_g90l0 : {α : Type} → (List Int) → (List Int) → (Int → Option α) → (Option α) → Int → Option α) (u562 : List Int) (u563 : List Int) (k579 : Int → Option α) : Option α :=
  L_g90l0 u562 u563
    (fun x578 =>
      k579 x578)
    (
      k579 (0 : Int))
    (5 : Int)
def g90 {α : Type} (m : Nat) : (List Int) → (List Int) → (Int → Option α) → Option α :=
  g90b (g90l0M m)
def g90tp : List TP := [(.vl (.sv (.ptr 0 0))), (.vl (.sv (.ptr 1 0)))]
def g90bp : List BP := [(false, [(.seq (.int .u32) 6)]), (false, [(.seq (.int .u32) 6)])]
def g90K {α : Type} (G : (List Int) → (List Int) → (Int → Option α) → Option α) (ls : List Lf) (k : TV → List (List Seg) → List (List Seg) → Option α) : Option α :=
  G ((lf ls 0).lst (.int .u32)) ((lf ls 1).lst (.int .u32))
    (fun y0 => k (.vl (.sv (.int .i64 y0))) [[(.seq (.int .u32) 6 ((lf ls 0).lst (.int .u32)))], [(.seq (.int .u32) 6 ((lf ls 1).lst (.int .u32)))]] [])
def g90hd  (L_g90l0 : {α : Type} → (List Int) → (List Int) → (Int → Option α) → (Option α) → Int → Option α) : Hd where
  call := fun f args Bs k => none
  loop := fun id st k => cond (Nat.beq id 0) (loopH g90l0D (g90l0K L_g90l0) st k) (none)
  ro := fun f => []
def g90h (m : Nat) : Hd := g90hd (g90l0M m)
theorem g90l0Step  (L_g90l0 : {α : Type} → (List Int) → (List Int) → (Int → Option α) → (Option α) → Int → Option α) {α : Type} (L : (List Int) → (List Int) → (Int → Option α) → (Option α) → Int → Option α) (ls : List Lf) (k : Ex → St → Option α) :
    g90l0K (fun a565 a566 k575 k576 v564 => g90l0b a565 a566 k575 k576 (L a565 a566 k575 k576) v564) ls k = ev tab (g90hd L_g90l0) (bodyAt Go.Proofs.Try.f90 0) (atHead g90l0D ls) (loopK g90l0D 0 (loopH g90l0D (g90l0K L)) k) := by kernel_rfl
theorem g90Main  (L_g90l0 : {α : Type} → (List Int) → (List Int) → (Int → Option α) → (Option α) → Int → Option α) {α : Type} (ls : List Lf) (k : TV → List (List Seg) → List (List Seg) → Option α) :
    g90K (g90b L_g90l0) ls k = evFun tab (g90hd L_g90l0) Go.Proofs.Try.f90 (fillT g90tp ls).1 (fillB g90bp (fillT g90tp ls).2).1 k := by kernel_rfl
theorem g90Calls (m : Nat) : (g90h m).CallsOk Go.Proofs.Try.prog := cok_nil
theorem g90l0Ok (m : Nat) (α : Type) (st : St) (k : Ex → St → Option α) (r : α) (h : (g90h m).loop 0 st k = some r) :
    ∃ e st', k e st' = some r ∧ CodeS Go.Proofs.Try.prog (.block 0 (.loop (bodyAt Go.Proofs.Try.f90 0))) st e st' :=
  loop_ok (tab := tab) (h := g90h m) (F := fun n ls k => g90l0K (fun a565 a566 k575 k576 v564 => g90l0 a565 a566 k575 k576 n v564) ls k) tabOk (g90Calls m) mixed (loopsOk_of _ (fun p hp => by rw [show loopsOf (bodyAt Go.Proofs.Try.f90 0) = [] by kernel_rfl] at hp; cases hp))
    (fun _ _ => rfl) (fun n ls k => g90l0Step (g90l0M m) (fun a565 a566 k575 k576 => g90l0 a565 a566 k575 k576 n) ls k) (n := m) h
theorem g90Fn (m : Nat) : FnOk Go.Proofs.Try.prog 90 g90tp g90bp (fun {α} => g90K (g90 (α := α) m)) :=
  fn_ok (tab := tab) (h := g90h m) (fn := Go.Proofs.Try.f90) (F := fun {α} => g90K (g90 (α := α) m)) tabOk (g90Calls m) mixed (by kernel_rfl) (by kernel_rfl) (fun c hc => by
    rw [bodyOf_some hc]
    exact loopsOk_of _ (fun p hp => by
    rw [show loopsOf (bodyOf Go.Proofs.Try.f90) = [(0, bodyAt Go.Proofs.Try.f90 0)] by kernel_rfl] at hp
    simp only [List.mem_cons, List.not_mem_nil, or_false] at hp
    rcases hp with rfl
    exact g90l0Ok m))
    (fun α ls k => g90Main (g90l0M m) ls k)
theorem g90Ok (m : Nat) : RowOk Go.Proofs.Try.prog 90 (fun {α} => rowK g90tp g90bp (g90K (g90 (α := α) m))) := row_of (g90Fn m)

/-! ### g91: spec.l01Minus -/
def g91l0b {α : Type}   (a586 : List Int) (a587 : List Int) (a588 : List Int) (k605 : (List Int) → Option α) (r606 : Int → Int → (List Int) → Option α) (v584 : Int) (v585 : Int) (a589 : List Int) : Option α :=
  cond (decide (v585 < (6 : Int)))
   (
    if 0 ≤ v585 ∧ v585 < (6 : Nat) then
      if v585.toNat < 6 then
        if 0 ≤ v585 ∧ v585 < (6 : Nat) then
          if v585.toNat < 6 then
            let x596 : Int := IntKind.wrap .i64 ((IntKind.wrap .i64 ((IntKind.wrap .i64 (List.getD a586 v585.toNat 0)) - (IntKind.wrap .i64 (List.getD a587 v585.toNat 0)))) - v584)
            cond (decide (x596 < (0 : Int)))
             (
              if 0 ≤ v585 ∧ v585 < (6 : Nat) then
                if v585.toNat < 6 then
                  r606 (1 : Int) (IntKind.wrap .i64 (v585 + (1 : Int))) (List.set a589 (v585.toNat) (IntKind.wrap .u32 (IntKind.wrap .i64 (x596 + (4294967296 : Int)))))
                else
                  none
              else
                none)
             (
              if 0 ≤ v585 ∧ v585 < (6 : Nat) then
                if v585.toNat < 6 then
                  r606 (0 : Int) (IntKind.wrap .i64 (v585 + (1 : Int))) (List.set a589 (v585.toNat) (IntKind.wrap .u32 x596))
                else
                  none
              else
                none)
          else
            none
        else
          none
      else
        none
    else
      none)
   (
    k605 a589)
def g91l0 {α : Type}   (a586 : List Int) (a587 : List Int) (a588 : List Int) (k605 : (List Int) → Option α) : Nat → Int → Int → (List Int) → Option α
  | 0 => fun _ _ _ => none
  | m + 1 => fun v584 v585 a589 => g91l0b a586 a587 a588 k605 (g91l0 a586 a587 a588 k605 m) v584 v585 a589
def g91l0M {α : Type} (m : Nat) : (List Int) → (List Int) → (List Int) → ((List Int) → Option α) → Int → Int → (List Int) → Option α :=
  fun a586 a587 a588 k605 v584 v585 a589 => g91l0 a586 a587 a588 k605 m v584 v585 a589
def g91l0D : LoopD := { n := 38, sl := [0, 1, 4, 5, 6, 7], bl := [0, 1, 1004, 1005], tp := [(.vl (.sv (.ptr 0 0))), (.vl (.sv (.ptr 1 0))), (.vl (.sv (.ptr 1004 0))), (.vl (.sv (.ptr 1005 0))), (.vl (.sv (.int .i64))), (.vl (.sv (.int .i64)))], bp := [(false, [(.seq (.int .u32) 6)]), (false, [(.seq (.int .u32) 6)]), (true, [(.seq (.int .u32) 6)]), (true, [(.seq (.int .u32) 6)])], xs := [(2, [4, 5], [0, 1, 1004, 1005])] }
def g91l0K {α : Type} (L : (List Int) → (List Int) → (List Int) → ((List Int) → Option α) → Int → Int → (List Int) → Option α) (ls : List Lf) (k : Ex → St → Option α) : Option α :=
  L ((lf ls 2).lst (.int .u32)) ((lf ls 3).lst (.int .u32)) ((lf ls 4).lst (.int .u32))
    (fun y3 => k .normal (mkSt 38 [4, 5] [(.vl (.sv (.ptr 1004 0))), (.vl (.sv (.ptr 1005 0)))] [0, 1, 1004, 1005] [(false, [(.seq (.int .u32) 6 ((lf ls 2).lst (.int .u32)))]), (false, [(.seq (.int .u32) 6 ((lf ls 3).lst (.int .u32)))]), (true, [(.seq (.int .u32) 6 ((lf ls 4).lst (.int .u32)))]), (true, [(.seq (.int .u32) 6 y3)])]))
    (lf ls 0).int (lf ls 1).int ((lf ls 5).lst (.int .u32))
def g91b {α : Type}  (L_g91l0 : {α : Type} → (List Int) → (List Int) → (List Int) → ((List Int) → Option α) → Int → Int → (List Int) → Option α) (u582 : List Int) (u583 : List Int) (k608 : (List Int) → Option α) : Option α :=
  L_g91l0 u582 u583 [0, 0, 0, 0, 0, 0]
    (fun l607 =>
      k608 l607)
    (0 : Int) (0 : Int) [0, 0, 0, 0, 0, 0]
def g91 {α : Type} (m : Nat) : (List Int) → (List Int) → ((List Int) → Option α) → Option α :=
  g91b (g91l0M m)
def g91tp : List TP := [(.vl (.sv (.ptr 0 0))), (.vl (.sv (.ptr 1 0)))]
def g91bp : List BP := [(false, [(.seq (.int .u32) 6)]), (false, [(.seq (.int .u32) 6)])]
def g91K {α : Type} (G : (List Int) → (List Int) → ((List Int) → Option α) → Option α) (ls : List Lf) (k : TV → List (List Seg) → List (List Seg) → Option α) : Option α :=
  G ((lf ls 0).lst (.int .u32)) ((lf ls 1).lst (.int .u32))
    (fun y0 => k (.vl (.agg [(.seq (.int .u32) 6 y0)])) [[(.seq (.int .u32) 6 ((lf ls 0).lst (.int .u32)))], [(.seq (.int .u32) 6 ((lf ls 1).lst (.int .u32)))]] [])
def g91hd  (L_g91l0 : {α : Type} → (List Int) → (List Int) → (List Int) → ((List Int) → Option α) → Int → Int → (List Int) → Option α) : Hd where
  call := fun f args Bs k => none
  loop := fun id st k => cond (Nat.beq id 0) (loopH g91l0D (g91l0K L_g91l0) st k) (none)
  ro := fun f => []
def g91h (m : Nat) : Hd := g91hd (g91l0M m)
theorem g91l0Step  (L_g91l0 : {α : Type} → (List Int) → (List Int) → (List Int) → ((List Int) → Option α) → Int → Int → (List Int) → Option α) {α : Type} (L : (List Int) → (List Int) → (List Int) → ((List Int) → Option α) → Int → Int → (List Int) → Option α) (ls : List Lf) (k : Ex → St → Option α) :
    g91l0K (fun a586 a587 a588 k605 v584 v585 a589 => g91l0b a586 a587 a588 k605 (L a586 a587 a588 k605) v584 v585 a589) ls k = ev tab (g91hd L_g91l0) (bodyAt Go.Proofs.Try.f91 0) (atHead g91l0D ls) (loopK g91l0D 0 (loopH g91l0D (g91l0K L)) k) := by kernel_rfl
theorem g91Main  (L_g91l0 : {α : Type} → (List Int) → (List Int) → (List Int) → ((List Int) → Option α) → Int → Int → (List Int) → Option α) {α : Type} (ls : List Lf) (k : TV → List (List Seg) → List (List Seg) → Option α) :
    g91K (g91b L_g91l0) ls k = evFun tab (g91hd L_g91l0) Go.Proofs.Try.f91 (fillT g91tp ls).1 (fillB g91bp (fillT g91tp ls).2).1 k := by kernel_rfl
theorem g91Calls (m : Nat) : (g91h m).CallsOk Go.Proofs.Try.prog := cok_nil
theorem g91l0Ok (m : Nat) (α : Type) (st : St) (k : Ex → St → Option α) (r : α) (h : (g91h m).loop 0 st k = some r) :
    ∃ e st', k e st' = some r ∧ CodeS Go.Proofs.Try.prog (.block 0 (.loop (bodyAt Go.Proofs.Try.f91 0))) st e st' :=
  loop_ok (tab := tab) (h := g91h m) (F := fun n ls k => g91l0K (fun a586 a587 a588 k605 v584 v585 a589 => g91l0 a586 a587 a588 k605 n v584 v585 a589) ls k) tabOk (g91Calls m) mixed (loopsOk_of _ (fun p hp => by rw [show loopsOf (bodyAt Go.Proofs.Try.f91 0) = [] by kernel_rfl] at hp; cases hp))
    (fun _ _ => rfl) (fun n ls k => g91l0Step (g91l0M m) (fun a586 a587 a588 k605 => g91l0 a586 a587 a588 k605 n) ls k) (n := m) h
theorem g91Fn (m : Nat) : FnOk Go.Proofs.Try.prog 91 g91tp g91bp (fun {α} => g91K (g91 (α := α) m)) :=
  fn_ok (tab := tab) (h := g91h m) (fn := Go.Proofs.Try.f91) (F := fun {α} => g91K (g91 (α := α) m)) tabOk (g91Calls m) mixed (by kernel_rfl) (by kernel_rfl) (fun c hc => by
    rw [bodyOf_some hc]
    exact loopsOk_of _ (fun p hp => by
    rw [show loopsOf (bodyOf Go.Proofs.Try.f91) = [(0, bodyAt Go.Proofs.Try.f91 0)] by kernel_rfl] at hp
    simp only [List.mem_cons, List.not_mem_nil, or_false] at hp
    rcases hp with rfl
    exact g91l0Ok m))
    (fun α ls k => g91Main (g91l0M m) ls k)
theorem g91Ok (m : Nat) : RowOk Go.Proofs.Try.prog 91 (fun {α} => rowK g91tp g91bp (g91K (g91 (α := α) m))) := row_of (g91Fn m)

/-! ### g60: spec.l01Add -/
def g60b {α : Type} (G_g89 : {α : Type} → (List Int) → (List Int) → ((List Int) → Bool → Option α) → Option α) (G_g88 : {α : Type} → Bool → (List Int) → (Bool → Option α) → Option α) (G_g90 : {α : Type} → (List Int) → (List Int) → (Int → Option α) → Option α) (G_g91 : {α : Type} → (List Int) → (List Int) → ((List Int) → Option α) → Option α)  (q520 : Bool) (u521 : List Int) (q522 : Bool) (u523 : List Int) (k613 : Bool → (List Int) → Int → Option α) : Option α :=
  cond (q520 == q522)
   (
    G_g89 u521 u523
      (fun l550 b551 =>
        cond (!b551)
         (
          k613 false [0, 0, 0, 0, 0, 0] (3 : Int))
         (
          G_g88 q520 l550
            (fun b561 =>
              k613 b561 l550 (0 : Int)))))
   (
    G_g90 u521 u523
      (fun x580 =>
        cond (decide (x580 ≥ (0 : Int)))
         (
          G_g91 u521 u523
            (fun l609 =>
              G_g88 q520 l609
                (fun b610 =>
                  k613 b610 l609 (0 : Int))))
         (
          G_g91 u523 u521
            (fun l611 =>
              G_g88 q522 l611
                (fun b612 =>
                  k613 b612 l611 (0 : Int))))))
def g60 {α : Type} (m : Nat) : Bool → (List Int) → Bool → (List Int) → (Bool → (List Int) → Int → Option α) → Option α :=
  g60b (g89 m) (g88 m) (g90 m) (g91 m)
def g60tp : List TP := [(.vl (.agg [(.one .bool), (.seq (.int .u32) 6)])), (.vl (.agg [(.one .bool), (.seq (.int .u32) 6)]))]
def g60bp : List BP := []
def g60K {α : Type} (G : Bool → (List Int) → Bool → (List Int) → (Bool → (List Int) → Int → Option α) → Option α) (ls : List Lf) (k : TV → List (List Seg) → List (List Seg) → Option α) : Option α :=
  G (lf ls 0).bool ((lf ls 1).lst (.int .u32)) (lf ls 2).bool ((lf ls 3).lst (.int .u32))
    (fun y0 y1 y2 => k (.tup [(.agg [(.one (.bool y0)), (.seq (.int .u32) 6 y1)]), (.sv (.int .i64 y2))]) [] [])
def g60hd (G_g89 : {α : Type} → (List Int) → (List Int) → ((List Int) → Bool → Option α) → Option α) (G_g88 : {α : Type} → Bool → (List Int) → (Bool → Option α) → Option α) (G_g90 : {α : Type} → (List Int) → (List Int) → (Int → Option α) → Option α) (G_g91 : {α : Type} → (List Int) → (List Int) → ((List Int) → Option α) → Option α)  : Hd where
  call := fun f args Bs k => cond (Nat.beq f 89) (rowK g89tp g89bp (g89K G_g89) args Bs k) (cond (Nat.beq f 88) (rowK g88tp g88bp (g88K G_g88) args Bs k) (cond (Nat.beq f 90) (rowK g90tp g90bp (g90K G_g90) args Bs k) (cond (Nat.beq f 91) (rowK g91tp g91bp (g91K G_g91) args Bs k) (none))))
  loop := fun id st k => none
  ro := fun f => cond (Nat.beq f 89) [0, 1] (cond (Nat.beq f 90) [0, 1] (cond (Nat.beq f 91) [0, 1] ([])))
def g60h (m : Nat) : Hd := g60hd (g89 m) (g88 m) (g90 m) (g91 m)
theorem g60Main (G_g89 : {α : Type} → (List Int) → (List Int) → ((List Int) → Bool → Option α) → Option α) (G_g88 : {α : Type} → Bool → (List Int) → (Bool → Option α) → Option α) (G_g90 : {α : Type} → (List Int) → (List Int) → (Int → Option α) → Option α) (G_g91 : {α : Type} → (List Int) → (List Int) → ((List Int) → Option α) → Option α)  {α : Type} (ls : List Lf) (k : TV → List (List Seg) → List (List Seg) → Option α) :
    g60K (g60b G_g89 G_g88 G_g90 G_g91) ls k = evFun tab (g60hd G_g89 G_g88 G_g90 G_g91) Go.Proofs.Try.f60 (fillT g60tp ls).1 (fillB g60bp (fillT g60tp ls).2).1 k := by kernel_rfl
theorem g60Calls (m : Nat) : (g60h m).CallsOk Go.Proofs.Try.prog := (cok_cons (g89Ok m) (cok_cons (g88Ok m) (cok_cons (g90Ok m) (cok_cons (g91Ok m) cok_nil))))
theorem g60Fn (m : Nat) : FnOk Go.Proofs.Try.prog 60 g60tp g60bp (fun {α} => g60K (g60 (α := α) m)) :=
  fn_ok (tab := tab) (h := g60h m) (fn := Go.Proofs.Try.f60) (F := fun {α} => g60K (g60 (α := α) m)) tabOk (g60Calls m) mixed (by kernel_rfl) (by kernel_rfl) (fun c hc => by
    rw [bodyOf_some hc]
    exact loopsOk_of _ (fun p hp => by rw [show loopsOf (bodyOf Go.Proofs.Try.f60) = [] by kernel_rfl] at hp; cases hp))
    (fun α ls k => g60Main (g89 m) (g88 m) (g90 m) (g91 m) ls k)
theorem g60Ok (m : Nat) : RowOk Go.Proofs.Try.prog 60 (fun {α} => rowK g60tp g60bp (g60K (g60 (α := α) m))) := row_of (g60Fn m)

/-! ### g62: spec.l01Of -/
def g62b {α : Type} (G_g88 : {α : Type} → Bool → (List Int) → (Bool → Option α) → Option α)  (p618 : Int) (k636 : Bool → (List Int) → Option α) : Option α :=
  let x619 : Int := IntKind.wrap .u64 p618
  cond (decide (p618 < (0 : Int)))
   (
    let x621 : Int := IntKind.wrap .u64 (0 - x619)
    let l626 : List Int := List.set (List.set [0, 0, 0, 0, 0, 0] 0 (IntKind.wrap .u32 x621)) 1 (IntKind.wrap .u32 (Int.fdiv x621 (2 ^ 32)))
    G_g88 (decide (p618 < (0 : Int))) l626
      (fun b628 =>
        k636 b628 l626))
   (
    let l633 : List Int := List.set (List.set [0, 0, 0, 0, 0, 0] 0 (IntKind.wrap .u32 x619)) 1 (IntKind.wrap .u32 (Int.fdiv x619 (2 ^ 32)))
    G_g88 (decide (p618 < (0 : Int))) l633
      (fun b635 =>
        k636 b635 l633))
def g62 {α : Type} (m : Nat) : Int → (Bool → (List Int) → Option α) → Option α :=
  g62b (g88 m)
def g62tp : List TP := [(.vl (.sv (.int .i64)))]
def g62bp : List BP := []
def g62K {α : Type} (G : Int → (Bool → (List Int) → Option α) → Option α) (ls : List Lf) (k : TV → List (List Seg) → List (List Seg) → Option α) : Option α :=
  G (lf ls 0).int
    (fun y0 y1 => k (.vl (.agg [(.one (.bool y0)), (.seq (.int .u32) 6 y1)])) [] [])
def g62hd (G_g88 : {α : Type} → Bool → (List Int) → (Bool → Option α) → Option α)  : Hd where
  call := fun f args Bs k => cond (Nat.beq f 88) (rowK g88tp g88bp (g88K G_g88) args Bs k) (none)
  loop := fun id st k => none
  ro := fun f => []
def g62h (m : Nat) : Hd := g62hd (g88 m)
theorem g62Main (G_g88 : {α : Type} → Bool → (List Int) → (Bool → Option α) → Option α)  {α : Type} (ls : List Lf) (k : TV → List (List Seg) → List (List Seg) → Option α) :
    g62K (g62b G_g88) ls k = evFun tab (g62hd G_g88) Go.Proofs.Try.f62 (fillT g62tp ls).1 (fillB g62bp (fillT g62tp ls).2).1 k := by kernel_rfl
theorem g62Calls (m : Nat) : (g62h m).CallsOk Go.Proofs.Try.prog := (cok_cons (g88Ok m) cok_nil)
theorem g62Fn (m : Nat) : FnOk Go.Proofs.Try.prog 62 g62tp g62bp (fun {α} => g62K (g62 (α := α) m)) :=
  fn_ok (tab := tab) (h := g62h m) (fn := Go.Proofs.Try.f62) (F := fun {α} => g62K (g62 (α := α) m)) tabOk (g62Calls m) mixed (by kernel_rfl) (by kernel_rfl) (fun c hc => by
    rw [bodyOf_some hc]
    exact loopsOk_of _ (fun p hp => by rw [show loopsOf (bodyOf Go.Proofs.Try.f62) = [] by kernel_rfl] at hp; cases hp))
    (fun α ls k => g62Main (g88 m) ls k)
theorem g62Ok (m : Nat) : RowOk Go.Proofs.Try.prog 62 (fun {α} => rowK g62tp g62bp (g62K (g62 (α := α) m))) := row_of (g62Fn m)

/-! ### g47: spec.l02Next -/
def g47b {α : Type} (G_g60 : {α : Type} → Bool → (List Int) → Bool → (List Int) → (Bool → (List Int) → Int → Option α) → Option α) (G_g62 : {α : Type} → Int → (Bool → (List Int) → Option α) → Option α)  (q517 : Bool) (u518 : List Int) (p519 : Int) (k642 : Bool → (List Int) → Int → Option α) : Option α :=
  G_g60 q517 u518 q517 u518
    (fun b614 l615 x616 =>
      cond (x616 != (0 : Int))
       (
        k642 false [0, 0, 0, 0, 0, 0] x616)
       (
        G_g62 p519
          (fun b637 l638 =>
            G_g60 b614 l615 b637 l638
              (fun b639 l640 x641 =>
                k642 b639 l640 x641))))
def g47 {α : Type} (m : Nat) : Bool → (List Int) → Int → (Bool → (List Int) → Int → Option α) → Option α :=
  g47b (g60 m) (g62 m)
def g47tp : List TP := [(.vl (.agg [(.one .bool), (.seq (.int .u32) 6)])), (.vl (.sv (.int .i64)))]
def g47bp : List BP := []
def g47K {α : Type} (G : Bool → (List Int) → Int → (Bool → (List Int) → Int → Option α) → Option α) (ls : List Lf) (k : TV → List (List Seg) → List (List Seg) → Option α) : Option α :=
  G (lf ls 0).bool ((lf ls 1).lst (.int .u32)) (lf ls 2).int
    (fun y0 y1 y2 => k (.tup [(.agg [(.one (.bool y0)), (.seq (.int .u32) 6 y1)]), (.sv (.int .i64 y2))]) [] [])
def g47hd (G_g60 : {α : Type} → Bool → (List Int) → Bool → (List Int) → (Bool → (List Int) → Int → Option α) → Option α) (G_g62 : {α : Type} → Int → (Bool → (List Int) → Option α) → Option α)  : Hd where
  call := fun f args Bs k => cond (Nat.beq f 60) (rowK g60tp g60bp (g60K G_g60) args Bs k) (cond (Nat.beq f 62) (rowK g62tp g62bp (g62K G_g62) args Bs k) (none))
  loop := fun id st k => none
  ro := fun f => []
def g47h (m : Nat) : Hd := g47hd (g60 m) (g62 m)
theorem g47Main (G_g60 : {α : Type} → Bool → (List Int) → Bool → (List Int) → (Bool → (List Int) → Int → Option α) → Option α) (G_g62 : {α : Type} → Int → (Bool → (List Int) → Option α) → Option α)  {α : Type} (ls : List Lf) (k : TV → List (List Seg) → List (List Seg) → Option α) :
    g47K (g47b G_g60 G_g62) ls k = evFun tab (g47hd G_g60 G_g62) Go.Proofs.Try.f47 (fillT g47tp ls).1 (fillB g47bp (fillT g47tp ls).2).1 k := by kernel_rfl
theorem g47Calls (m : Nat) : (g47h m).CallsOk Go.Proofs.Try.prog := (cok_cons (g60Ok m) (cok_cons (g62Ok m) cok_nil))
theorem g47Fn (m : Nat) : FnOk Go.Proofs.Try.prog 47 g47tp g47bp (fun {α} => g47K (g47 (α := α) m)) :=
  fn_ok (tab := tab) (h := g47h m) (fn := Go.Proofs.Try.f47) (F := fun {α} => g47K (g47 (α := α) m)) tabOk (g47Calls m) mixed (by kernel_rfl) (by kernel_rfl) (fun c hc => by
    rw [bodyOf_some hc]
    exact loopsOk_of _ (fun p hp => by rw [show loopsOf (bodyOf Go.Proofs.Try.f47) = [] by kernel_rfl] at hp; cases hp))
    (fun α ls k => g47Main (g60 m) (g62 m) ls k)
theorem g47Ok (m : Nat) : RowOk Go.Proofs.Try.prog 47 (fun {α} => rowK g47tp g47bp (g47K (g47 (α := α) m))) := row_of (g47Fn m)

/-! ### g18: spec.ValueOfDigits -/
def g18l0b {α : Type}   (m481 : Nat) (m482 : Nat) (m483 : Nat) (m486 : Nat) (a487 : List Int) (c488 : Bool) (a489 : List Int) (c490 : Bool) (a491 : List Int) (k499 : Bool → Option α) (r500 : Bool → Int → Option α) (c484 : Bool) (v485 : Int) : Option α :=
  cond (decide (v485 < ((m482 : Nat) : Int)))
   (
    cond c484
     (
      if 0 ≤ v485 ∧ v485 < (m482 : Nat) then
        if (m481 + v485.toNat) < m486 then
          cond (decide ((List.getD a487 (m481 + v485.toNat) 0) ≥ (-1 : Int)))
           (
            if 0 ≤ v485 ∧ v485 < (m482 : Nat) then
              if (m481 + v485.toNat) < m486 then
                r500 (decide ((List.getD a487 (m481 + v485.toNat) 0) ≤ (1 : Int))) (IntKind.wrap .i64 (v485 + (1 : Int)))
              else
                none
            else
              none)
           (
            r500 false (IntKind.wrap .i64 (v485 + (1 : Int))))
        else
          none
      else
        none)
     (
      k499 c484))
   (
    k499 c484)
def g18l0 {α : Type}   (m481 : Nat) (m482 : Nat) (m483 : Nat) (m486 : Nat) (a487 : List Int) (c488 : Bool) (a489 : List Int) (c490 : Bool) (a491 : List Int) (k499 : Bool → Option α) : Nat → Bool → Int → Option α
  | 0 => fun _ _ => none
  | m + 1 => fun c484 v485 => g18l0b m481 m482 m483 m486 a487 c488 a489 c490 a491 k499 (g18l0 m481 m482 m483 m486 a487 c488 a489 c490 a491 k499 m) c484 v485
def g18l0M {α : Type} (m : Nat) : Nat → Nat → Nat → Nat → (List Int) → Bool → (List Int) → Bool → (List Int) → (Bool → Option α) → Bool → Int → Option α :=
  fun m481 m482 m483 m486 a487 c488 a489 c490 a491 k499 c484 v485 => g18l0 m481 m482 m483 m486 a487 c488 a489 c490 a491 k499 m c484 v485
def g18l0D : LoopD := { n := 64, sl := [1, 2, 4, 6, 7], bl := [0, 1002, 1004], tp := [(.vl (.sv (.slc 0 0 1))), (.vl (.sv (.ptr 1002 0))), (.vl (.sv (.ptr 1004 0))), (.vl (.sv .bool)), (.vl (.sv (.int .i64)))], bp := [(false, [(.seqv (.int .i8))]), (true, [(.one .bool), (.seq (.int .u32) 6)]), (true, [(.one .bool), (.seq (.int .u32) 6)])], xs := [(2, [1, 2, 4, 6], [0, 1002, 1004])] }
def g18l0K {α : Type} (L : Nat → Nat → Nat → Nat → (List Int) → Bool → (List Int) → Bool → (List Int) → (Bool → Option α) → Bool → Int → Option α) (ls : List Lf) (k : Ex → St → Option α) : Option α :=
  L (lf ls 0).nat (lf ls 1).nat (lf ls 2).nat (lf ls 5).nat ((lf ls 6).lst (.int .i8)) (lf ls 7).bool ((lf ls 8).lst (.int .u32)) (lf ls 9).bool ((lf ls 10).lst (.int .u32))
    (fun y3 => k .normal (mkSt 64 [1, 2, 4, 6] [(.vl (.sv (.slc 0 0 1 (lf ls 0).nat (lf ls 1).nat (lf ls 2).nat))), (.vl (.sv (.ptr 1002 0))), (.vl (.sv (.ptr 1004 0))), (.vl (.sv (.bool y3)))] [0, 1002, 1004] [(false, [(.seq (.int .i8) (lf ls 5).nat ((lf ls 6).lst (.int .i8)))]), (true, [(.one (.bool (lf ls 7).bool)), (.seq (.int .u32) 6 ((lf ls 8).lst (.int .u32)))]), (true, [(.one (.bool (lf ls 9).bool)), (.seq (.int .u32) 6 ((lf ls 10).lst (.int .u32)))])]))
    (lf ls 3).bool (lf ls 4).int
def g18l2b {α : Type} (G_g47 : {α : Type} → Bool → (List Int) → Int → (Bool → (List Int) → Int → Option α) → Option α)  (m504 : Nat) (m505 : Nat) (m506 : Nat) (m508 : Nat) (a509 : List Int) (c510 : Bool) (a511 : List Int) (k648 : Int → (List Int) → Option α) (k649 : Bool → (List Int) → Option α) (r650 : Int → Bool → (List Int) → Option α) (v507 : Int) (c512 : Bool) (a513 : List Int) : Option α :=
  cond (decide (v507 < ((m505 : Nat) : Int)))
   (
    if 0 ≤ v507 ∧ v507 < (m505 : Nat) then
      if (m504 + v507.toNat) < m508 then
        G_g47 c512 a513 (IntKind.wrap .i64 (List.getD a509 (m504 + v507.toNat) 0))
          (fun b643 l644 x645 =>
            cond (x645 != (0 : Int))
             (
              k648 x645 [0, 0, 0, 0, 0, 0])
             (
              r650 (IntKind.wrap .i64 (v507 + (1 : Int))) b643 l644))
      else
        none
    else
      none)
   (
    k649 c512 a513)
def g18l2 {α : Type} (G_g47 : {α : Type} → Bool → (List Int) → Int → (Bool → (List Int) → Int → Option α) → Option α)  (m504 : Nat) (m505 : Nat) (m506 : Nat) (m508 : Nat) (a509 : List Int) (c510 : Bool) (a511 : List Int) (k648 : Int → (List Int) → Option α) (k649 : Bool → (List Int) → Option α) : Nat → Int → Bool → (List Int) → Option α
  | 0 => fun _ _ _ => none
  | m + 1 => fun v507 c512 a513 => g18l2b G_g47 m504 m505 m506 m508 a509 c510 a511 k648 k649 (g18l2 G_g47 m504 m505 m506 m508 a509 c510 a511 k648 k649 m) v507 c512 a513
def g18l2M {α : Type} (m : Nat) : Nat → Nat → Nat → Nat → (List Int) → Bool → (List Int) → (Int → (List Int) → Option α) → (Bool → (List Int) → Option α) → Int → Bool → (List Int) → Option α :=
  fun m504 m505 m506 m508 a509 c510 a511 k648 k649 v507 c512 a513 => g18l2 (g47 m) m504 m505 m506 m508 a509 c510 a511 k648 k649 m v507 c512 a513
def g18l2D : LoopD := { n := 64, sl := [1, 4, 8, 9], bl := [0, 1004, 1008], tp := [(.vl (.sv (.slc 0 0 1))), (.vl (.sv (.ptr 1004 0))), (.vl (.sv (.ptr 1008 0))), (.vl (.sv (.int .i64)))], bp := [(false, [(.seqv (.int .i8))]), (true, [(.one .bool), (.seq (.int .u32) 6)]), (true, [(.one .bool), (.seq (.int .u32) 6)])], xs := [(1, [4, 5], [0, 1004]), (4, [4, 8], [0, 1004, 1008])] }
def g18l2K {α : Type} (L : Nat → Nat → Nat → Nat → (List Int) → Bool → (List Int) → (Int → (List Int) → Option α) → (Bool → (List Int) → Option α) → Int → Bool → (List Int) → Option α) (ls : List Lf) (k : Ex → St → Option α) : Option α :=
  L (lf ls 0).nat (lf ls 1).nat (lf ls 2).nat (lf ls 4).nat ((lf ls 5).lst (.int .i8)) (lf ls 6).bool ((lf ls 7).lst (.int .u32))
    (fun y0 y4 => k .ret (mkSt 64 [4, 5] [(.vl (.sv (.ptr 1004 0))), (.vl (.sv (.int .i64 y0)))] [0, 1004] [(false, [(.seq (.int .i8) (lf ls 4).nat ((lf ls 5).lst (.int .i8)))]), (true, [(.one (.bool false)), (.seq (.int .u32) 6 y4)])]))
    (fun y4 y5 => k .normal (mkSt 64 [4, 8] [(.vl (.sv (.ptr 1004 0))), (.vl (.sv (.ptr 1008 0)))] [0, 1004, 1008] [(false, [(.seq (.int .i8) (lf ls 4).nat ((lf ls 5).lst (.int .i8)))]), (true, [(.one (.bool (lf ls 6).bool)), (.seq (.int .u32) 6 ((lf ls 7).lst (.int .u32)))]), (true, [(.one (.bool y4)), (.seq (.int .u32) 6 y5)])]))
    (lf ls 3).int (lf ls 8).bool ((lf ls 9).lst (.int .u32))
def g18b {α : Type} (G_g46 : {α : Type} → Bool → (List Int) → (Bool → Option α) → Option α) (G_g47 : {α : Type} → Bool → (List Int) → Int → (Bool → (List Int) → Int → Option α) → Option α) (L_g18l0 : {α : Type} → Nat → Nat → Nat → Nat → (List Int) → Bool → (List Int) → Bool → (List Int) → (Bool → Option α) → Bool → Int → Option α) (L_g18l2 : {α : Type} → Nat → Nat → Nat → Nat → (List Int) → Bool → (List Int) → (Int → (List Int) → Option α) → (Bool → (List Int) → Option α) → Int → Bool → (List Int) → Option α) (q468 : Bool) (u469 : List Int) (m470 : Nat) (m471 : Nat) (m472 : Nat) (m473 : Nat) (u474 : List Int) (k655 : Bool → (List Int) → Int → Option α) : Option α :=
  G_g46 q468 u469
    (fun b480 =>
      L_g18l0 m470 m471 m472 m473 u474 q468 u469 false [0, 0, 0, 0, 0, 0]
        (fun b501 =>
          cond (!b501)
           (
            k655 false [0, 0, 0, 0, 0, 0] (1 : Int))
           (
            cond (decide (((m471 : Nat) : Int) > (64 : Int)))
             (
              k655 false [0, 0, 0, 0, 0, 0] (2 : Int))
             (
              L_g18l2 m470 m471 m472 m473 u474 false [0, 0, 0, 0, 0, 0]
                (fun x651 l652 =>
                  k655 false l652 x651)
                (fun b653 l654 =>
                  k655 b653 l654 (0 : Int))
                (0 : Int) q468 u469)))
        b480 (0 : Int))
def g18 {α : Type} (m : Nat) : Bool → (List Int) → Nat → Nat → Nat → Nat → (List Int) → (Bool → (List Int) → Int → Option α) → Option α :=
  g18b (g46 m) (g47 m) (g18l0M m) (g18l2M m)
def g18tp : List TP := [(.vl (.agg [(.one .bool), (.seq (.int .u32) 6)])), (.vl (.sv (.slc 0 0 1)))]
def g18bp : List BP := [(false, [(.seqv (.int .i8))])]
def g18K {α : Type} (G : Bool → (List Int) → Nat → Nat → Nat → Nat → (List Int) → (Bool → (List Int) → Int → Option α) → Option α) (ls : List Lf) (k : TV → List (List Seg) → List (List Seg) → Option α) : Option α :=
  G (lf ls 0).bool ((lf ls 1).lst (.int .u32)) (lf ls 2).nat (lf ls 3).nat (lf ls 4).nat (lf ls 5).nat ((lf ls 6).lst (.int .i8))
    (fun y0 y1 y2 => k (.tup [(.agg [(.one (.bool y0)), (.seq (.int .u32) 6 y1)]), (.sv (.int .i64 y2))]) [[(.seq (.int .i8) (lf ls 5).nat ((lf ls 6).lst (.int .i8)))]] [])
def g18hd (G_g46 : {α : Type} → Bool → (List Int) → (Bool → Option α) → Option α) (G_g47 : {α : Type} → Bool → (List Int) → Int → (Bool → (List Int) → Int → Option α) → Option α) (L_g18l0 : {α : Type} → Nat → Nat → Nat → Nat → (List Int) → Bool → (List Int) → Bool → (List Int) → (Bool → Option α) → Bool → Int → Option α) (L_g18l2 : {α : Type} → Nat → Nat → Nat → Nat → (List Int) → Bool → (List Int) → (Int → (List Int) → Option α) → (Bool → (List Int) → Option α) → Int → Bool → (List Int) → Option α) : Hd where
  call := fun f args Bs k => cond (Nat.beq f 46) (rowK g46tp g46bp (g46K G_g46) args Bs k) (cond (Nat.beq f 47) (rowK g47tp g47bp (g47K G_g47) args Bs k) (none))
  loop := fun id st k => cond (Nat.beq id 0) (loopH g18l0D (g18l0K L_g18l0) st k) (cond (Nat.beq id 2) (loopH g18l2D (g18l2K L_g18l2) st k) (none))
  ro := fun f => cond (Nat.beq f 46) [0] ([])
def g18h (m : Nat) : Hd := g18hd (g46 m) (g47 m) (g18l0M m) (g18l2M m)
theorem g18l0Step (G_g46 : {α : Type} → Bool → (List Int) → (Bool → Option α) → Option α) (G_g47 : {α : Type} → Bool → (List Int) → Int → (Bool → (List Int) → Int → Option α) → Option α) (L_g18l0 : {α : Type} → Nat → Nat → Nat → Nat → (List Int) → Bool → (List Int) → Bool → (List Int) → (Bool → Option α) → Bool → Int → Option α) (L_g18l2 : {α : Type} → Nat → Nat → Nat → Nat → (List Int) → Bool → (List Int) → (Int → (List Int) → Option α) → (Bool → (List Int) → Option α) → Int → Bool → (List Int) → Option α) {α : Type} (L : Nat → Nat → Nat → Nat → (List Int) → Bool → (List Int) → Bool → (List Int) → (Bool → Option α) → Bool → Int → Option α) (ls : List Lf) (k : Ex → St → Option α) :
    g18l0K (fun m481 m482 m483 m486 a487 c488 a489 c490 a491 k499 c484 v485 => g18l0b m481 m482 m483 m486 a487 c488 a489 c490 a491 k499 (L m481 m482 m483 m486 a487 c488 a489 c490 a491 k499) c484 v485) ls k = ev tab (g18hd G_g46 G_g47 L_g18l0 L_g18l2) (bodyAt Go.Proofs.Try.f18 0) (atHead g18l0D ls) (loopK g18l0D 0 (loopH g18l0D (g18l0K L)) k) := by kernel_rfl
theorem g18l2Step (G_g46 : {α : Type} → Bool → (List Int) → (Bool → Option α) → Option α) (G_g47 : {α : Type} → Bool → (List Int) → Int → (Bool → (List Int) → Int → Option α) → Option α) (L_g18l0 : {α : Type} → Nat → Nat → Nat → Nat → (List Int) → Bool → (List Int) → Bool → (List Int) → (Bool → Option α) → Bool → Int → Option α) (L_g18l2 : {α : Type} → Nat → Nat → Nat → Nat → (List Int) → Bool → (List Int) → (Int → (List Int) → Option α) → (Bool → (List Int) → Option α) → Int → Bool → (List Int) → Option α) {α : Type} (L : Nat → Nat → Nat → Nat → (List Int) → Bool → (List Int) → (Int → (List Int) → Option α) → (Bool → (List Int) → Option α) → Int → Bool → (List Int) → Option α) (ls : List Lf) (k : Ex → St → Option α) :
    g18l2K (fun m504 m505 m506 m508 a509 c510 a511 k648 k649 v507 c512 a513 => g18l2b G_g47 m504 m505 m506 m508 a509 c510 a511 k648 k649 (L m504 m505 m506 m508 a509 c510 a511 k648 k649) v507 c512 a513) ls k = ev tab (g18hd G_g46 G_g47 L_g18l0 L_g18l2) (bodyAt Go.Proofs.Try.f18 2) (atHead g18l2D ls) (loopK g18l2D 2 (loopH g18l2D (g18l2K L)) k) := by kernel_rfl
theorem g18Main (G_g46 : {α : Type} → Bool → (List Int) → (Bool → Option α) → Option α) (G_g47 : {α : Type} → Bool → (List Int) → Int → (Bool → (List Int) → Int → Option α) → Option α) (L_g18l0 : {α : Type} → Nat → Nat → Nat → Nat → (List Int) → Bool → (List Int) → Bool → (List Int) → (Bool → Option α) → Bool → Int → Option α) (L_g18l2 : {α : Type} → Nat → Nat → Nat → Nat → (List Int) → Bool → (List Int) → (Int → (List Int) → Option α) → (Bool → (List Int) → Option α) → Int → Bool → (List Int) → Option α) {α : Type} (ls : List Lf) (k : TV → List (List Seg) → List (List Seg) → Option α) :
    g18K (g18b G_g46 G_g47 L_g18l0 L_g18l2) ls k = evFun tab (g18hd G_g46 G_g47 L_g18l0 L_g18l2) Go.Proofs.Try.f18 (fillT g18tp ls).1 (fillB g18bp (fillT g18tp ls).2).1 k := by kernel_rfl
theorem g18Calls (m : Nat) : (g18h m).CallsOk Go.Proofs.Try.prog := (cok_cons (g46Ok m) (cok_cons (g47Ok m) cok_nil))
theorem g18l0Ok (m : Nat) (α : Type) (st : St) (k : Ex → St → Option α) (r : α) (h : (g18h m).loop 0 st k = some r) :
    ∃ e st', k e st' = some r ∧ CodeS Go.Proofs.Try.prog (.block 0 (.loop (bodyAt Go.Proofs.Try.f18 0))) st e st' :=
  loop_ok (tab := tab) (h := g18h m) (F := fun n ls k => g18l0K (fun m481 m482 m483 m486 a487 c488 a489 c490 a491 k499 c484 v485 => g18l0 m481 m482 m483 m486 a487 c488 a489 c490 a491 k499 n c484 v485) ls k) tabOk (g18Calls m) mixed (loopsOk_of _ (fun p hp => by rw [show loopsOf (bodyAt Go.Proofs.Try.f18 0) = [] by kernel_rfl] at hp; cases hp))
    (fun _ _ => rfl) (fun n ls k => g18l0Step (g46 m) (g47 m) (g18l0M m) (g18l2M m) (fun m481 m482 m483 m486 a487 c488 a489 c490 a491 k499 => g18l0 m481 m482 m483 m486 a487 c488 a489 c490 a491 k499 n) ls k) (n := m) h
theorem g18l2Ok (m : Nat) (α : Type) (st : St) (k : Ex → St → Option α) (r : α) (h : (g18h m).loop 2 st k = some r) :
    ∃ e st', k e st' = some r ∧ CodeS Go.Proofs.Try.prog (.block 2 (.loop (bodyAt Go.Proofs.Try.f18 2))) st e st' :=
  loop_ok (tab := tab) (h := g18h m) (F := fun n ls k => g18l2K (fun m504 m505 m506 m508 a509 c510 a511 k648 k649 v507 c512 a513 => g18l2 (g47 m) m504 m505 m506 m508 a509 c510 a511 k648 k649 n v507 c512 a513) ls k) tabOk (g18Calls m) mixed (loopsOk_of _ (fun p hp => by rw [show loopsOf (bodyAt Go.Proofs.Try.f18 2) = [] by kernel_rfl] at hp; cases hp))
    (fun _ _ => rfl) (fun n ls k => g18l2Step (g46 m) (g47 m) (g18l0M m) (g18l2M m) (fun m504 m505 m506 m508 a509 c510 a511 k648 k649 => g18l2 (g47 m) m504 m505 m506 m508 a509 c510 a511 k648 k649 n) ls k) (n := m) h
theorem g18Fn (m : Nat) : FnOk Go.Proofs.Try.prog 18 g18tp g18bp (fun {α} => g18K (g18 (α := α) m)) :=
  fn_ok (tab := tab) (h := g18h m) (fn := Go.Proofs.Try.f18) (F := fun {α} => g18K (g18 (α := α) m)) tabOk (g18Calls m) mixed (by kernel_rfl) (by kernel_rfl) (fun c hc => by
    rw [bodyOf_some hc]
    exact loopsOk_of _ (fun p hp => by
    rw [show loopsOf (bodyOf Go.Proofs.Try.f18) = [(0, bodyAt Go.Proofs.Try.f18 0), (2, bodyAt Go.Proofs.Try.f18 2)] by kernel_rfl] at hp
    simp only [List.mem_cons, List.not_mem_nil, or_false] at hp
    rcases hp with rfl | rfl
    · exact g18l0Ok m
    · exact g18l2Ok m))
    (fun α ls k => g18Main (g46 m) (g47 m) (g18l0M m) (g18l2M m) ls k)
theorem g18Ok (m : Nat) : RowOk Go.Proofs.Try.prog 18 (fun {α} => rowK g18tp g18bp (g18K (g18 (α := α) m))) := row_of (g18Fn m)

/-! ### g49: impl.ValidWide -/
def g49b {α : Type}   (q668 : Bool) (u669 : List Int) (k672 : Bool → Option α) : Option α :=
  cond (!q668)
   (
    k672 true)
   (
    k672 (!(eqLI u669 [0, 0, 0, 0, 0, 0])))
def g49 {α : Type} (m : Nat) : Bool → (List Int) → (Bool → Option α) → Option α :=
  g49b
def g49tp : List TP := [(.vl (.agg [(.one .bool), (.seq (.int .u32) 6)]))]
def g49bp : List BP := []
def g49K {α : Type} (G : Bool → (List Int) → (Bool → Option α) → Option α) (ls : List Lf) (k : TV → List (List Seg) → List (List Seg) → Option α) : Option α :=
  G (lf ls 0).bool ((lf ls 1).lst (.int .u32))
    (fun y0 => k (.vl (.sv (.bool y0))) [] [])
def g49hd   : Hd where
  call := fun f args Bs k => none
  loop := fun id st k => none
  ro := fun f => []
def g49h (m : Nat) : Hd := g49hd
theorem g49Main   {α : Type} (ls : List Lf) (k : TV → List (List Seg) → List (List Seg) → Option α) :
    g49K (g49b) ls k = evFun tab (g49hd) Go.Proofs.Try.f49 (fillT g49tp ls).1 (fillB g49bp (fillT g49tp ls).2).1 k := by kernel_rfl
theorem g49Calls (m : Nat) : (g49h m).CallsOk Go.Proofs.Try.prog := cok_nil
theorem g49Fn (m : Nat) : FnOk Go.Proofs.Try.prog 49 g49tp g49bp (fun {α} => g49K (g49 (α := α) m)) :=
  fn_ok (tab := tab) (h := g49h m) (fn := Go.Proofs.Try.f49) (F := fun {α} => g49K (g49 (α := α) m)) tabOk (g49Calls m) mixed (by kernel_rfl) (by kernel_rfl) (fun c hc => by
    rw [bodyOf_some hc]
    exact loopsOk_of _ (fun p hp => by rw [show loopsOf (bodyOf Go.Proofs.Try.f49) = [] by kernel_rfl] at hp; cases hp))
    (fun α ls k => g49Main ls k)
theorem g49Ok (m : Nat) : RowOk Go.Proofs.Try.prog 49 (fun {α} => rowK g49tp g49bp (g49K (g49 (α := α) m))) := row_of (g49Fn m)

/-! ### g52: impl.isDigit -/
def g52b {α : Type}   (p695 : Int) (k698 : Bool → Option α) : Option α :=
  cond (decide (p695 ≥ (-1 : Int)))
   (
    k698 (decide (p695 ≤ (1 : Int))))
   (
    k698 false)
def g52 {α : Type} (m : Nat) : Int → (Bool → Option α) → Option α :=
  g52b
def g52tp : List TP := [(.vl (.sv (.int .i8)))]
def g52bp : List BP := []
def g52K {α : Type} (G : Int → (Bool → Option α) → Option α) (ls : List Lf) (k : TV → List (List Seg) → List (List Seg) → Option α) : Option α :=
  G (lf ls 0).int
    (fun y0 => k (.vl (.sv (.bool y0))) [] [])
def g52hd   : Hd where
  call := fun f args Bs k => none
  loop := fun id st k => none
  ro := fun f => []
def g52h (m : Nat) : Hd := g52hd
theorem g52Main   {α : Type} (ls : List Lf) (k : TV → List (List Seg) → List (List Seg) → Option α) :
    g52K (g52b) ls k = evFun tab (g52hd) Go.Proofs.Try.f52 (fillT g52tp ls).1 (fillB g52bp (fillT g52tp ls).2).1 k := by kernel_rfl
theorem g52Calls (m : Nat) : (g52h m).CallsOk Go.Proofs.Try.prog := cok_nil
theorem g52Fn (m : Nat) : FnOk Go.Proofs.Try.prog 52 g52tp g52bp (fun {α} => g52K (g52 (α := α) m)) :=
  fn_ok (tab := tab) (h := g52h m) (fn := Go.Proofs.Try.f52) (F := fun {α} => g52K (g52 (α := α) m)) tabOk (g52Calls m) mixed (by kernel_rfl) (by kernel_rfl) (fun c hc => by
    rw [bodyOf_some hc]
    exact loopsOk_of _ (fun p hp => by rw [show loopsOf (bodyOf Go.Proofs.Try.f52) = [] by kernel_rfl] at hp; cases hp))
    (fun α ls k => g52Main ls k)
theorem g52Ok (m : Nat) : RowOk Go.Proofs.Try.prog 52 (fun {α} => rowK g52tp g52bp (g52K (g52 (α := α) m))) := row_of (g52Fn m)

/-! ### g51: impl.ValueOfDigits$1 -/
def g51b {α : Type} (G_g52 : {α : Type} → Int → (Bool → Option α) → Option α)  (p694 : Int) (k701 : Bool → Option α) : Option α :=
  G_g52 p694
    (fun b699 =>
      k701 (!b699))
def g51 {α : Type} (m : Nat) : Int → (Bool → Option α) → Option α :=
  g51b (g52 m)
def g51tp : List TP := [(.vl (.sv (.int .i8)))]
def g51bp : List BP := []
def g51K {α : Type} (G : Int → (Bool → Option α) → Option α) (ls : List Lf) (k : TV → List (List Seg) → List (List Seg) → Option α) : Option α :=
  G (lf ls 0).int
    (fun y0 => k (.vl (.sv (.bool y0))) [] [])
def g51hd (G_g52 : {α : Type} → Int → (Bool → Option α) → Option α)  : Hd where
  call := fun f args Bs k => cond (Nat.beq f 52) (rowK g52tp g52bp (g52K G_g52) args Bs k) (none)
  loop := fun id st k => none
  ro := fun f => []
def g51h (m : Nat) : Hd := g51hd (g52 m)
theorem g51Main (G_g52 : {α : Type} → Int → (Bool → Option α) → Option α)  {α : Type} (ls : List Lf) (k : TV → List (List Seg) → List (List Seg) → Option α) :
    g51K (g51b G_g52) ls k = evFun tab (g51hd G_g52) Go.Proofs.Try.f51 (fillT g51tp ls).1 (fillB g51bp (fillT g51tp ls).2).1 k := by kernel_rfl
theorem g51Calls (m : Nat) : (g51h m).CallsOk Go.Proofs.Try.prog := (cok_cons (g52Ok m) cok_nil)
theorem g51Fn (m : Nat) : FnOk Go.Proofs.Try.prog 51 g51tp g51bp (fun {α} => g51K (g51 (α := α) m)) :=
  fn_ok (tab := tab) (h := g51h m) (fn := Go.Proofs.Try.f51) (F := fun {α} => g51K (g51 (α := α) m)) tabOk (g51Calls m) mixed (by kernel_rfl) (by kernel_rfl) (fun c hc => by
    rw [bodyOf_some hc]
    exact loopsOk_of _ (fun p hp => by rw [show loopsOf (bodyOf Go.Proofs.Try.f51) = [] by kernel_rfl] at hp; cases hp))
    (fun α ls k => g51Main (g52 m) ls k)
theorem g51Ok (m : Nat) : RowOk Go.Proofs.Try.prog 51 (fun {α} => rowK g51tp g51bp (g51K (g51 (α := α) m))) := row_of (g51Fn m)

/-! ### g83: slices.IndexFunc[[]int8,int8] -/
def g83l0b {α : Type} (G_g51 : {α : Type} → Int → (Bool → Option α) → Option α)  (m685 : Nat) (m686 : Nat) (m687 : Nat) (v688 : Int) (m690 : Nat) (a691 : List Int) (k704 : Int → Option α) (k705 : Option α) (r706 : Int → Option α) (v689 : Int) : Option α :=
  cond (decide (v689 < v688))
   (
    if 0 ≤ v689 ∧ v689 < (m686 : Nat) then
      if (m685 + v689.toNat) < m690 then
        G_g51 (List.getD a691 (m685 + v689.toNat) 0)
          (fun b702 =>
            cond b702
             (
              k704 v689)
             (
              r706 (IntKind.wrap .i64 (v689 + (1 : Int)))))
      else
        none
    else
      none)
   (
    k705)
def g83l0 {α : Type} (G_g51 : {α : Type} → Int → (Bool → Option α) → Option α)  (m685 : Nat) (m686 : Nat) (m687 : Nat) (v688 : Int) (m690 : Nat) (a691 : List Int) (k704 : Int → Option α) (k705 : Option α) : Nat → Int → Option α
  | 0 => fun _ => none
  | m + 1 => fun v689 => g83l0b G_g51 m685 m686 m687 v688 m690 a691 k704 k705 (g83l0 G_g51 m685 m686 m687 v688 m690 a691 k704 k705 m) v689
def g83l0M {α : Type} (m : Nat) : Nat → Nat → Nat → Int → Nat → (List Int) → (Int → Option α) → (Option α) → Int → Option α :=
  fun m685 m686 m687 v688 m690 a691 k704 k705 v689 => g83l0 (g51 m) m685 m686 m687 v688 m690 a691 k704 k705 m v689
def g83l0D : LoopD := { n := 19, sl := [0, 1, 7, 8], bl := [0], tp := [(.vl (.sv (.slc 0 0 1))), (.vl (.sv (.clo 51 []))), (.vl (.sv (.int .i64))), (.vl (.sv (.int .i64)))], bp := [(false, [(.seqv (.int .i8))])], xs := [(1, [4], [0]), (2, [], [0])] }
def g83l0K {α : Type} (L : Nat → Nat → Nat → Int → Nat → (List Int) → (Int → Option α) → (Option α) → Int → Option α) (ls : List Lf) (k : Ex → St → Option α) : Option α :=
  L (lf ls 0).nat (lf ls 1).nat (lf ls 2).nat (lf ls 3).int (lf ls 5).nat ((lf ls 6).lst (.int .i8))
    (fun y0 => k .ret (mkSt 19 [4] [(.vl (.sv (.int .i64 y0)))] [0] [(false, [(.seq (.int .i8) (lf ls 5).nat ((lf ls 6).lst (.int .i8)))])]))
    (k .normal (mkSt 19 [] [] [0] [(false, [(.seq (.int .i8) (lf ls 5).nat ((lf ls 6).lst (.int .i8)))])]))
    (lf ls 4).int
def g83b {α : Type} (G_g51 : {α : Type} → Int → (Bool → Option α) → Option α) (L_g83l0 : {α : Type} → Nat → Nat → Nat → Int → Nat → (List Int) → (Int → Option α) → (Option α) → Int → Option α) (m680 : Nat) (m681 : Nat) (m682 : Nat) (m683 : Nat) (u684 : List Int) (k708 : Int → Option α) : Option α :=
  L_g83l0 m680 m681 m682 ((m681 : Nat) : Int) m683 u684
    (fun x707 =>
      k708 x707)
    (
      k708 (-1 : Int))
    (0 : Int)
def g83 {α : Type} (m : Nat) : Nat → Nat → Nat → Nat → (List Int) → (Int → Option α) → Option α :=
  g83b (g51 m) (g83l0M m)
def g83tp : List TP := [(.vl (.sv (.slc 0 0 1))), (.vl (.sv (.clo 51 [])))]
def g83bp : List BP := [(false, [(.seqv (.int .i8))])]
def g83K {α : Type} (G : Nat → Nat → Nat → Nat → (List Int) → (Int → Option α) → Option α) (ls : List Lf) (k : TV → List (List Seg) → List (List Seg) → Option α) : Option α :=
  G (lf ls 0).nat (lf ls 1).nat (lf ls 2).nat (lf ls 3).nat ((lf ls 4).lst (.int .i8))
    (fun y0 => k (.vl (.sv (.int .i64 y0))) [[(.seq (.int .i8) (lf ls 3).nat ((lf ls 4).lst (.int .i8)))]] [])
def g83hd (G_g51 : {α : Type} → Int → (Bool → Option α) → Option α) (L_g83l0 : {α : Type} → Nat → Nat → Nat → Int → Nat → (List Int) → (Int → Option α) → (Option α) → Int → Option α) : Hd where
  call := fun f args Bs k => cond (Nat.beq f 51) (rowK g51tp g51bp (g51K G_g51) args Bs k) (none)
  loop := fun id st k => cond (Nat.beq id 0) (loopH g83l0D (g83l0K L_g83l0) st k) (none)
  ro := fun f => []
def g83h (m : Nat) : Hd := g83hd (g51 m) (g83l0M m)
theorem g83l0Step (G_g51 : {α : Type} → Int → (Bool → Option α) → Option α) (L_g83l0 : {α : Type} → Nat → Nat → Nat → Int → Nat → (List Int) → (Int → Option α) → (Option α) → Int → Option α) {α : Type} (L : Nat → Nat → Nat → Int → Nat → (List Int) → (Int → Option α) → (Option α) → Int → Option α) (ls : List Lf) (k : Ex → St → Option α) :
    g83l0K (fun m685 m686 m687 v688 m690 a691 k704 k705 v689 => g83l0b G_g51 m685 m686 m687 v688 m690 a691 k704 k705 (L m685 m686 m687 v688 m690 a691 k704 k705) v689) ls k = ev tab (g83hd G_g51 L_g83l0) (bodyAt Go.Proofs.Try.f83 0) (atHead g83l0D ls) (loopK g83l0D 0 (loopH g83l0D (g83l0K L)) k) := by kernel_rfl
theorem g83Main (G_g51 : {α : Type} → Int → (Bool → Option α) → Option α) (L_g83l0 : {α : Type} → Nat → Nat → Nat → Int → Nat → (List Int) → (Int → Option α) → (Option α) → Int → Option α) {α : Type} (ls : List Lf) (k : TV → List (List Seg) → List (List Seg) → Option α) :
    g83K (g83b G_g51 L_g83l0) ls k = evFun tab (g83hd G_g51 L_g83l0) Go.Proofs.Try.f83 (fillT g83tp ls).1 (fillB g83bp (fillT g83tp ls).2).1 k := by kernel_rfl
theorem g83Calls (m : Nat) : (g83h m).CallsOk Go.Proofs.Try.prog := (cok_cons (g51Ok m) cok_nil)
theorem g83l0Ok (m : Nat) (α : Type) (st : St) (k : Ex → St → Option α) (r : α) (h : (g83h m).loop 0 st k = some r) :
    ∃ e st', k e st' = some r ∧ CodeS Go.Proofs.Try.prog (.block 0 (.loop (bodyAt Go.Proofs.Try.f83 0))) st e st' :=
  loop_ok (tab := tab) (h := g83h m) (F := fun n ls k => g83l0K (fun m685 m686 m687 v688 m690 a691 k704 k705 v689 => g83l0 (g51 m) m685 m686 m687 v688 m690 a691 k704 k705 n v689) ls k) tabOk (g83Calls m) mixed (loopsOk_of _ (fun p hp => by rw [show loopsOf (bodyAt Go.Proofs.Try.f83 0) = [] by kernel_rfl] at hp; cases hp))
    (fun _ _ => rfl) (fun n ls k => g83l0Step (g51 m) (g83l0M m) (fun m685 m686 m687 v688 m690 a691 k704 k705 => g83l0 (g51 m) m685 m686 m687 v688 m690 a691 k704 k705 n) ls k) (n := m) h
theorem g83Fn (m : Nat) : FnOk Go.Proofs.Try.prog 83 g83tp g83bp (fun {α} => g83K (g83 (α := α) m)) :=
  fn_ok (tab := tab) (h := g83h m) (fn := Go.Proofs.Try.f83) (F := fun {α} => g83K (g83 (α := α) m)) tabOk (g83Calls m) mixed (by kernel_rfl) (by kernel_rfl) (fun c hc => by
    rw [bodyOf_some hc]
    exact loopsOk_of _ (fun p hp => by
    rw [show loopsOf (bodyOf Go.Proofs.Try.f83) = [(0, bodyAt Go.Proofs.Try.f83 0)] by kernel_rfl] at hp
    simp only [List.mem_cons, List.not_mem_nil, or_false] at hp
    rcases hp with rfl
    exact g83l0Ok m))
    (fun α ls k => g83Main (g51 m) (g83l0M m) ls k)
theorem g83Ok (m : Nat) : RowOk Go.Proofs.Try.prog 83 (fun {α} => rowK g83tp g83bp (g83K (g83 (α := α) m))) := row_of (g83Fn m)

/-! ### g50: slices.ContainsFunc[[]int8,int8] -/
def g50b {α : Type} (G_g83 : {α : Type} → Nat → Nat → Nat → Nat → (List Int) → (Int → Option α) → Option α)  (m675 : Nat) (m676 : Nat) (m677 : Nat) (m678 : Nat) (u679 : List Int) (k711 : Bool → Option α) : Option α :=
  G_g83 m675 m676 m677 m678 u679
    (fun x709 =>
      k711 (decide (x709 ≥ (0 : Int))))
def g50 {α : Type} (m : Nat) : Nat → Nat → Nat → Nat → (List Int) → (Bool → Option α) → Option α :=
  g50b (g83 m)
def g50tp : List TP := [(.vl (.sv (.slc 0 0 1))), (.vl (.sv (.clo 51 [])))]
def g50bp : List BP := [(false, [(.seqv (.int .i8))])]
def g50K {α : Type} (G : Nat → Nat → Nat → Nat → (List Int) → (Bool → Option α) → Option α) (ls : List Lf) (k : TV → List (List Seg) → List (List Seg) → Option α) : Option α :=
  G (lf ls 0).nat (lf ls 1).nat (lf ls 2).nat (lf ls 3).nat ((lf ls 4).lst (.int .i8))
    (fun y0 => k (.vl (.sv (.bool y0))) [[(.seq (.int .i8) (lf ls 3).nat ((lf ls 4).lst (.int .i8)))]] [])
def g50hd (G_g83 : {α : Type} → Nat → Nat → Nat → Nat → (List Int) → (Int → Option α) → Option α)  : Hd where
  call := fun f args Bs k => cond (Nat.beq f 83) (rowK g83tp g83bp (g83K G_g83) args Bs k) (none)
  loop := fun id st k => none
  ro := fun f => cond (Nat.beq f 83) [0] ([])
def g50h (m : Nat) : Hd := g50hd (g83 m)
theorem g50Main (G_g83 : {α : Type} → Nat → Nat → Nat → Nat → (List Int) → (Int → Option α) → Option α)  {α : Type} (ls : List Lf) (k : TV → List (List Seg) → List (List Seg) → Option α) :
    g50K (g50b G_g83) ls k = evFun tab (g50hd G_g83) Go.Proofs.Try.f50 (fillT g50tp ls).1 (fillB g50bp (fillT g50tp ls).2).1 k := by kernel_rfl
theorem g50Calls (m : Nat) : (g50h m).CallsOk Go.Proofs.Try.prog := (cok_cons (g83Ok m) cok_nil)
theorem g50Fn (m : Nat) : FnOk Go.Proofs.Try.prog 50 g50tp g50bp (fun {α} => g50K (g50 (α := α) m)) :=
  fn_ok (tab := tab) (h := g50h m) (fn := Go.Proofs.Try.f50) (F := fun {α} => g50K (g50 (α := α) m)) tabOk (g50Calls m) mixed (by kernel_rfl) (by kernel_rfl) (fun c hc => by
    rw [bodyOf_some hc]
    exact loopsOk_of _ (fun p hp => by rw [show loopsOf (bodyOf Go.Proofs.Try.f50) = [] by kernel_rfl] at hp; cases hp))
    (fun α ls k => g50Main (g83 m) ls k)
theorem g50Ok (m : Nat) : RowOk Go.Proofs.Try.prog 50 (fun {α} => rowK g50tp g50bp (g50K (g50 (α := α) m))) := row_of (g50Fn m)

/-! ### g84: impl.wide -/
def g84b {α : Type}   (q736 : Bool) (u737 : List Int) (k739 : Bool → Option α) : Option α :=
  cond q736
   (
    k739 (!(eqLI u737 [0, 0, 0, 0, 0, 0])))
   (
    k739 false)
def g84 {α : Type} (m : Nat) : Bool → (List Int) → (Bool → Option α) → Option α :=
  g84b
def g84tp : List TP := [(.vl (.sv .bool)), (.vl (.agg [(.seq (.int .u32) 6)]))]
def g84bp : List BP := []
def g84K {α : Type} (G : Bool → (List Int) → (Bool → Option α) → Option α) (ls : List Lf) (k : TV → List (List Seg) → List (List Seg) → Option α) : Option α :=
  G (lf ls 0).bool ((lf ls 1).lst (.int .u32))
    (fun y0 => k (.vl (.agg [(.one (.bool y0)), (.seq (.int .u32) 6 ((lf ls 1).lst (.int .u32)))])) [] [])
def g84hd   : Hd where
  call := fun f args Bs k => none
  loop := fun id st k => none
  ro := fun f => []
def g84h (m : Nat) : Hd := g84hd
theorem g84Main   {α : Type} (ls : List Lf) (k : TV → List (List Seg) → List (List Seg) → Option α) :
    g84K (g84b) ls k = evFun tab (g84hd) Go.Proofs.Try.f84 (fillT g84tp ls).1 (fillB g84bp (fillT g84tp ls).2).1 k := by kernel_rfl
theorem g84Calls (m : Nat) : (g84h m).CallsOk Go.Proofs.Try.prog := cok_nil
theorem g84Fn (m : Nat) : FnOk Go.Proofs.Try.prog 84 g84tp g84bp (fun {α} => g84K (g84 (α := α) m)) :=
  fn_ok (tab := tab) (h := g84h m) (fn := Go.Proofs.Try.f84) (F := fun {α} => g84K (g84 (α := α) m)) tabOk (g84Calls m) mixed (by kernel_rfl) (by kernel_rfl) (fun c hc => by
    rw [bodyOf_some hc]
    exact loopsOk_of _ (fun p hp => by rw [show loopsOf (bodyOf Go.Proofs.Try.f84) = [] by kernel_rfl] at hp; cases hp))
    (fun α ls k => g84Main ls k)
theorem g84Ok (m : Nat) : RowOk Go.Proofs.Try.prog 84 (fun {α} => rowK g84tp g84bp (g84K (g84 (α := α) m))) := row_of (g84Fn m)

/-! ### g55: impl.WideOf -/
def g55b {α : Type} (G_g84 : {α : Type} → Bool → (List Int) → (Bool → Option α) → Option α)  (p728 : Int) (k746 : Bool → (List Int) → Option α) : Option α :=
  let x729 : Int := IntKind.wrap .u64 p728
  cond (decide (p728 < (0 : Int)))
   (
    let x731 : Int := IntKind.wrap .u64 (0 - x729)
    let x733 : Int := IntKind.wrap .u32 x731
    let x735 : Int := IntKind.wrap .u32 (Int.fdiv x731 (2 ^ 32))
    G_g84 (decide (p728 < (0 : Int))) [x733, x735, 0, 0, 0, 0]
      (fun b740 =>
        k746 b740 [x733, x735, 0, 0, 0, 0]))
   (
    let x742 : Int := IntKind.wrap .u32 x729
    let x744 : Int := IntKind.wrap .u32 (Int.fdiv x729 (2 ^ 32))
    G_g84 (decide (p728 < (0 : Int))) [x742, x744, 0, 0, 0, 0]
      (fun b745 =>
        k746 b745 [x742, x744, 0, 0, 0, 0]))
def g55 {α : Type} (m : Nat) : Int → (Bool → (List Int) → Option α) → Option α :=
  g55b (g84 m)
def g55tp : List TP := [(.vl (.sv (.int .i64)))]
def g55bp : List BP := []
def g55K {α : Type} (G : Int → (Bool → (List Int) → Option α) → Option α) (ls : List Lf) (k : TV → List (List Seg) → List (List Seg) → Option α) : Option α :=
  G (lf ls 0).int
    (fun y0 y1 => k (.vl (.agg [(.one (.bool y0)), (.seq (.int .u32) 6 y1)])) [] [])
def g55hd (G_g84 : {α : Type} → Bool → (List Int) → (Bool → Option α) → Option α)  : Hd where
  call := fun f args Bs k => cond (Nat.beq f 84) (rowK g84tp g84bp (g84K G_g84) args Bs k) (none)
  loop := fun id st k => none
  ro := fun f => []
def g55h (m : Nat) : Hd := g55hd (g84 m)
theorem g55Main (G_g84 : {α : Type} → Bool → (List Int) → (Bool → Option α) → Option α)  {α : Type} (ls : List Lf) (k : TV → List (List Seg) → List (List Seg) → Option α) :
    g55K (g55b G_g84) ls k = evFun tab (g55hd G_g84) Go.Proofs.Try.f55 (fillT g55tp ls).1 (fillB g55bp (fillT g55tp ls).2).1 k := by kernel_rfl
theorem g55Calls (m : Nat) : (g55h m).CallsOk Go.Proofs.Try.prog := (cok_cons (g84Ok m) cok_nil)
theorem g55Fn (m : Nat) : FnOk Go.Proofs.Try.prog 55 g55tp g55bp (fun {α} => g55K (g55 (α := α) m)) :=
  fn_ok (tab := tab) (h := g55h m) (fn := Go.Proofs.Try.f55) (F := fun {α} => g55K (g55 (α := α) m)) tabOk (g55Calls m) mixed (by kernel_rfl) (by kernel_rfl) (fun c hc => by
    rw [bodyOf_some hc]
    exact loopsOk_of _ (fun p hp => by rw [show loopsOf (bodyOf Go.Proofs.Try.f55) = [] by kernel_rfl] at hp; cases hp))
    (fun α ls k => g55Main (g84 m) ls k)
theorem g55Ok (m : Nat) : RowOk Go.Proofs.Try.prog 55 (fun {α} => rowK g55tp g55bp (g55K (g55 (α := α) m))) := row_of (g55Fn m)
end Go.Proofs.Ytobejeiffgehfaa.Sx
