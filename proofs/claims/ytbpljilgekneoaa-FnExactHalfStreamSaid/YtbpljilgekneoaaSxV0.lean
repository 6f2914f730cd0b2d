/- Functions. Printed by our own sx.py. -/
import Derived.Test.YtbpljilgekneoaaSxT
namespace Go.Proofs.Ytbpljilgekneoaa.Sx
open Go
set_option linter.unusedVariables false
set_option maxRecDepth 100000
/-! ### g72: laws.szInt8S -/
def g72b {α : Type}   (m32 : Nat) (m33 : Nat) (m34 : Nat) (p35 : Int) (m36 : Nat) (u37 : List Int) (k40 : Int → Option α) : Option α :=
  let x38 : Int := IntKind.wrap .i64 (p35 - ((m33 : Nat) : Int))
  cond (decide (x38 < (0 : Int)))
   (
    k40 (-1 : Int))
   (
    k40 x38)
def g72 {α : Type} (m : Nat) : Nat → Nat → Nat → Int → Nat → (List Int) → (Int → Option α) → Option α :=
  g72b
def g72tp : List TP := [(.vl (.sv (.sla 0 0 1))), (.vl (.sv (.int .i64)))]
def g72bp : List BP := [(false, [(.seqv (.int .i8))])]
def g72K {α : Type} (G : Nat → Nat → Nat → Int → Nat → (List Int) → (Int → Option α) → Option α) (ls : List Lf) (k : TV → List (List Seg) → List (List Seg) → Option α) : Option α :=
  G (lf ls 0).nat (lf ls 1).nat (lf ls 2).nat (lf ls 3).int (lf ls 4).nat ((lf ls 5).lst (.int .i8))
    (fun y0 => k (.vl (.sv (.int .i64 y0))) [[(.seq (.int .i8) (lf ls 4).nat ((lf ls 5).lst (.int .i8)))]] [])
def g72hd   : Hd where
  call := fun f args Bs k => none
  loop := fun id st k => none
  ro := fun f => []
def g72h (m : Nat) : Hd := g72hd
theorem g72Main   {α : Type} (ls : List Lf) (k : TV → List (List Seg) → List (List Seg) → Option α) :
    g72K (g72b) ls k = evFun tab (g72hd) Go.Proofs.Try.f72 (fillT g72tp ls).1 (fillB g72bp (fillT g72tp ls).2).1 k := by kernel_rfl
theorem g72Calls (m : Nat) : (g72h m).CallsOk Go.Proofs.Try.prog := cok_nil
theorem g72Fn (m : Nat) : FnOk Go.Proofs.Try.prog 72 g72tp g72bp (fun {α} => g72K (g72 (α := α) m)) :=
  fn_ok (tab := tab) (h := g72h m) (fn := Go.Proofs.Try.f72) (F := fun {α} => g72K (g72 (α := α) m)) tabOk (g72Calls m) mixed (by kernel_rfl) (by kernel_rfl) (fun c hc => by
    rw [bodyOf_some hc]
    exact loopsOk_of _ (fun p hp => by rw [show loopsOf (bodyOf Go.Proofs.Try.f72) = [] by kernel_rfl] at hp; cases hp))
    (fun α ls k => g72Main ls k)
theorem g72Ok (m : Nat) : RowOk Go.Proofs.Try.prog 72 (fun {α} => rowK g72tp g72bp (g72K (g72 (α := α) m))) := row_of (g72Fn m)

/-! ### g35: laws.szStream -/
def g35b {α : Type} (G_g72 : {α : Type} → Nat → Nat → Nat → Int → Nat → (List Int) → (Int → Option α) → Option α)  (m21 : Nat) (m22 : Nat) (m23 : Nat) (m24 : Nat) (m25 : Nat) (m26 : Nat) (p27 : Int) (m28 : Nat) (u29 : List Int) (m30 : Nat) (u31 : List Int) (k45 : Int → Option α) : Option α :=
  G_g72 m21 m22 m23 p27 m28 u29
    (fun x41 =>
      cond (decide (x41 < (0 : Int)))
       (
        k45 (-1 : Int))
       (
        G_g72 m24 m25 m26 x41 m30 u31
          (fun x43 =>
            cond (decide (x43 < (0 : Int)))
             (
              k45 (-1 : Int))
             (
              k45 x43))))
def g35 {α : Type} (m : Nat) : Nat → Nat → Nat → Nat → Nat → Nat → Int → Nat → (List Int) → Nat → (List Int) → (Int → Option α) → Option α :=
  g35b (g72 m)
def g35tp : List TP := [(.vl (.agg [(.one (.sla 0 0 1)), (.one (.sla 1 0 1))])), (.vl (.sv (.int .i64)))]
def g35bp : List BP := [(false, [(.seqv (.int .i8))]), (false, [(.seqv (.int .i8))])]
def g35K {α : Type} (G : Nat → Nat → Nat → Nat → Nat → Nat → Int → Nat → (List Int) → Nat → (List Int) → (Int → Option α) → Option α) (ls : List Lf) (k : TV → List (List Seg) → List (List Seg) → Option α) : Option α :=
  G (lf ls 0).nat (lf ls 1).nat (lf ls 2).nat (lf ls 3).nat (lf ls 4).nat (lf ls 5).nat (lf ls 6).int (lf ls 7).nat ((lf ls 8).lst (.int .i8)) (lf ls 9).nat ((lf ls 10).lst (.int .i8))
    (fun y0 => k (.vl (.sv (.int .i64 y0))) [[(.seq (.int .i8) (lf ls 7).nat ((lf ls 8).lst (.int .i8)))], [(.seq (.int .i8) (lf ls 9).nat ((lf ls 10).lst (.int .i8)))]] [])
def g35hd (G_g72 : {α : Type} → Nat → Nat → Nat → Int → Nat → (List Int) → (Int → Option α) → Option α)  : Hd where
  call := fun f args Bs k => cond (Nat.beq f 72) (rowK g72tp g72bp (g72K G_g72) args Bs k) (none)
  loop := fun id st k => none
  ro := fun f => cond (Nat.beq f 72) [0] ([])
def g35h (m : Nat) : Hd := g35hd (g72 m)
theorem g35Main (G_g72 : {α : Type} → Nat → Nat → Nat → Int → Nat → (List Int) → (Int → Option α) → Option α)  {α : Type} (ls : List Lf) (k : TV → List (List Seg) → List (List Seg) → Option α) :
    g35K (g35b G_g72) ls k = evFun tab (g35hd G_g72) Go.Proofs.Try.f35 (fillT g35tp ls).1 (fillB g35bp (fillT g35tp ls).2).1 k := by kernel_rfl
theorem g35Calls (m : Nat) : (g35h m).CallsOk Go.Proofs.Try.prog := (cok_cons (g72Ok m) cok_nil)
theorem g35Fn (m : Nat) : FnOk Go.Proofs.Try.prog 35 g35tp g35bp (fun {α} => g35K (g35 (α := α) m)) :=
  fn_ok (tab := tab) (h := g35h m) (fn := Go.Proofs.Try.f35) (F := fun {α} => g35K (g35 (α := α) m)) tabOk (g35Calls m) mixed (by kernel_rfl) (by kernel_rfl) (fun c hc => by
    rw [bodyOf_some hc]
    exact loopsOk_of _ (fun p hp => by rw [show loopsOf (bodyOf Go.Proofs.Try.f35) = [] by kernel_rfl] at hp; cases hp))
    (fun α ls k => g35Main (g72 m) ls k)
theorem g35Ok (m : Nat) : RowOk Go.Proofs.Try.prog 35 (fun {α} => rowK g35tp g35bp (g35K (g35 (α := α) m))) := row_of (g35Fn m)

/-! ### g74: laws.toInt8S -/
def g74l0b {α : Type}   (m66 : Nat) (m67 : Nat) (m68 : Nat) (m69 : Nat) (m70 : Nat) (m71 : Nat) (m73 : Nat) (a74 : List Int) (m75 : Nat) (k81 : (List Int) → Option α) (r82 : Int → (List Int) → Option α) (v72 : Int) (a76 : List Int) : Option α :=
  cond (decide (v72 < ((m67 : Nat) : Int)))
   (
    if 0 ≤ v72 ∧ v72 < (m67 : Nat) then
      if (m66 + v72.toNat) < m73 then
        if 0 ≤ v72 ∧ v72 < (m70 : Nat) then
          if (m69 + v72.toNat) < m75 then
            r82 (IntKind.wrap .i64 (v72 + (1 : Int))) (List.set a76 (m69 + v72.toNat) (List.getD a74 (m66 + v72.toNat) 0))
          else
            none
        else
          none
      else
        none
    else
      none)
   (
    k81 a76)
def g74l0 {α : Type}   (m66 : Nat) (m67 : Nat) (m68 : Nat) (m69 : Nat) (m70 : Nat) (m71 : Nat) (m73 : Nat) (a74 : List Int) (m75 : Nat) (k81 : (List Int) → Option α) : Nat → Int → (List Int) → Option α
  | 0 => fun _ _ => none
  | m + 1 => fun v72 a76 => g74l0b m66 m67 m68 m69 m70 m71 m73 a74 m75 k81 (g74l0 m66 m67 m68 m69 m70 m71 m73 a74 m75 k81 m) v72 a76
def g74l0M {α : Type} (m : Nat) : Nat → Nat → Nat → Nat → Nat → Nat → Nat → (List Int) → Nat → ((List Int) → Option α) → Int → (List Int) → Option α :=
  fun m66 m67 m68 m69 m70 m71 m73 a74 m75 k81 v72 a76 => g74l0 m66 m67 m68 m69 m70 m71 m73 a74 m75 k81 m v72 a76
def g74l0D : LoopD := { n := 22, low := [0], sl := [0, 3, 4], bl := [0, 1000001], tp := [(.vl (.sv (.sla 0 0 1))), (.vl (.sv (.slc 1000001 0 1))), (.vl (.sv (.int .i64)))], bp := [(false, [(.seqv (.int .i8))]), (true, [(.seqv (.int .i8))])], xs := [(2, [3])] }
def g74l0K {α : Type} (L : Nat → Nat → Nat → Nat → Nat → Nat → Nat → (List Int) → Nat → ((List Int) → Option α) → Int → (List Int) → Option α) (ls : List Lf) (k : Ex → St → Option α) : Option α :=
  L (lf ls 0).nat (lf ls 1).nat (lf ls 2).nat (lf ls 3).nat (lf ls 4).nat (lf ls 5).nat (lf ls 7).nat ((lf ls 8).lst (.int .i8)) (lf ls 9).nat
    (fun y6 => k .normal (mkSt 22 [3] [(.vl (.sv (.slc 1000001 0 1 (lf ls 3).nat (lf ls 4).nat (lf ls 5).nat)))] [0, 1000001] [(false, [(.seq (.int .i8) (lf ls 7).nat ((lf ls 8).lst (.int .i8)))]), (true, [(.seq (.int .i8) (lf ls 9).nat y6)])]))
    (lf ls 6).int ((lf ls 10).lst (.int .i8))
def g74b {α : Type}  (L_g74l0 : {α : Type} → Nat → Nat → Nat → Nat → Nat → Nat → Nat → (List Int) → Nat → ((List Int) → Option α) → Int → (List Int) → Option α) (m60 : Nat) (m61 : Nat) (m62 : Nat) (m63 : Nat) (u64 : List Int) (k84 : (List Int) → Option α) : Option α :=
  if ((m61 : Nat) : Int) = ((m61 : Nat) : Int) ∧ 0 ≤ ((m61 : Nat) : Int) ∧ ((m61 : Nat) : Int) ≤ 1048576 then
    L_g74l0 m60 m61 m62 0 m61 m61 m63 u64 m61
      (fun l83 =>
        k84 l83)
      (0 : Int) (List.replicate m61 (0 : Int))
  else
    none
def g74 {α : Type} (m : Nat) : Nat → Nat → Nat → Nat → (List Int) → ((List Int) → Option α) → Option α :=
  g74b (g74l0M m)
def g74tp : List TP := [(.vl (.sv (.sla 0 0 1)))]
def g74bp : List BP := [(false, [(.seqv (.int .i8))])]
def g74K {α : Type} (G : Nat → Nat → Nat → Nat → (List Int) → ((List Int) → Option α) → Option α) (ls : List Lf) (k : TV → List (List Seg) → List (List Seg) → Option α) : Option α :=
  G (lf ls 0).nat (lf ls 1).nat (lf ls 2).nat (lf ls 3).nat ((lf ls 4).lst (.int .i8))
    (fun y6 => k (.vl (.sv (.slc 1 0 1 0 (lf ls 1).nat (lf ls 1).nat))) [[(.seq (.int .i8) (lf ls 3).nat ((lf ls 4).lst (.int .i8)))]] [[(.seq (.int .i8) (lf ls 1).nat y6)]])
def g74hd  (L_g74l0 : {α : Type} → Nat → Nat → Nat → Nat → Nat → Nat → Nat → (List Int) → Nat → ((List Int) → Option α) → Int → (List Int) → Option α) : Hd where
  call := fun f args Bs k => none
  loop := fun id st k => cond (Nat.beq id 0) (loopH g74l0D (g74l0K L_g74l0) st k) (none)
  ro := fun f => []
def g74h (m : Nat) : Hd := g74hd (g74l0M m)
theorem g74l0Step  (L_g74l0 : {α : Type} → Nat → Nat → Nat → Nat → Nat → Nat → Nat → (List Int) → Nat → ((List Int) → Option α) → Int → (List Int) → Option α) {α : Type} (L : Nat → Nat → Nat → Nat → Nat → Nat → Nat → (List Int) → Nat → ((List Int) → Option α) → Int → (List Int) → Option α) (ls : List Lf) (k : Ex → St → Option α) :
    g74l0K (fun m66 m67 m68 m69 m70 m71 m73 a74 m75 k81 v72 a76 => g74l0b m66 m67 m68 m69 m70 m71 m73 a74 m75 k81 (L m66 m67 m68 m69 m70 m71 m73 a74 m75 k81) v72 a76) ls k = ev tab (g74hd L_g74l0) (bodyAt Go.Proofs.Try.f74 0) (atHead g74l0D ls) (loopK g74l0D 0 (loopH g74l0D (g74l0K L)) k) := by kernel_rfl
theorem g74Main  (L_g74l0 : {α : Type} → Nat → Nat → Nat → Nat → Nat → Nat → Nat → (List Int) → Nat → ((List Int) → Option α) → Int → (List Int) → Option α) {α : Type} (ls : List Lf) (k : TV → List (List Seg) → List (List Seg) → Option α) :
    g74K (g74b L_g74l0) ls k = evFun tab (g74hd L_g74l0) Go.Proofs.Try.f74 (fillT g74tp ls).1 (fillB g74bp (fillT g74tp ls).2).1 k := by kernel_rfl
theorem g74Calls (m : Nat) : (g74h m).CallsOk Go.Proofs.Try.prog := cok_nil
theorem g74l0Ok (m : Nat) (α : Type) (st : St) (k : Ex → St → Option α) (r : α) (h : (g74h m).loop 0 st k = some r) :
    ∃ e st', k e st' = some r ∧ CodeS Go.Proofs.Try.prog (.block 0 (.loop (bodyAt Go.Proofs.Try.f74 0))) st e st' :=
  loop_ok (tab := tab) (h := g74h m) (F := fun n ls k => g74l0K (fun m66 m67 m68 m69 m70 m71 m73 a74 m75 k81 v72 a76 => g74l0 m66 m67 m68 m69 m70 m71 m73 a74 m75 k81 n v72 a76) ls k) tabOk (g74Calls m) mixed (loopsOk_of _ (fun p hp => by rw [show loopsOf (bodyAt Go.Proofs.Try.f74 0) = [] by kernel_rfl] at hp; cases hp))
    (fun _ _ => rfl) (fun n ls k => g74l0Step (g74l0M m) (fun m66 m67 m68 m69 m70 m71 m73 a74 m75 k81 => g74l0 m66 m67 m68 m69 m70 m71 m73 a74 m75 k81 n) ls k) (n := m) h
theorem g74Fn (m : Nat) : FnOk Go.Proofs.Try.prog 74 g74tp g74bp (fun {α} => g74K (g74 (α := α) m)) :=
  fn_ok (tab := tab) (h := g74h m) (fn := Go.Proofs.Try.f74) (F := fun {α} => g74K (g74 (α := α) m)) tabOk (g74Calls m) mixed (by kernel_rfl) (by kernel_rfl) (fun c hc => by
    rw [bodyOf_some hc]
    exact loopsOk_of _ (fun p hp => by
    rw [show loopsOf (bodyOf Go.Proofs.Try.f74) = [(0, bodyAt Go.Proofs.Try.f74 0)] by kernel_rfl] at hp
    simp only [List.mem_cons, List.not_mem_nil, or_false] at hp
    rcases hp with rfl
    exact g74l0Ok m))
    (fun α ls k => g74Main (g74l0M m) ls k)
theorem g74Ok (m : Nat) : RowOk Go.Proofs.Try.prog 74 (fun {α} => rowK g74tp g74bp (g74K (g74 (α := α) m))) := row_of (g74Fn m)

/-! ### g37: laws.toStream -/
def g37b {α : Type} (G_g74 : {α : Type} → Nat → Nat → Nat → Nat → (List Int) → ((List Int) → Option α) → Option α)  (m50 : Nat) (m51 : Nat) (m52 : Nat) (m53 : Nat) (m54 : Nat) (m55 : Nat) (m56 : Nat) (u57 : List Int) (m58 : Nat) (u59 : List Int) (k87 : (List Int) → (List Int) → Option α) : Option α :=
  G_g74 m50 m51 m52 m56 u57
    (fun l85 =>
      G_g74 m53 m54 m55 m58 u59
        (fun l86 =>
          k87 l85 l86))
def g37 {α : Type} (m : Nat) : Nat → Nat → Nat → Nat → Nat → Nat → Nat → (List Int) → Nat → (List Int) → ((List Int) → (List Int) → Option α) → Option α :=
  g37b (g74 m)
def g37tp : List TP := [(.vl (.agg [(.one (.sla 0 0 1)), (.one (.sla 1 0 1))]))]
def g37bp : List BP := [(false, [(.seqv (.int .i8))]), (false, [(.seqv (.int .i8))])]
def g37K {α : Type} (G : Nat → Nat → Nat → Nat → Nat → Nat → Nat → (List Int) → Nat → (List Int) → ((List Int) → (List Int) → Option α) → Option α) (ls : List Lf) (k : TV → List (List Seg) → List (List Seg) → Option α) : Option α :=
  G (lf ls 0).nat (lf ls 1).nat (lf ls 2).nat (lf ls 3).nat (lf ls 4).nat (lf ls 5).nat (lf ls 6).nat ((lf ls 7).lst (.int .i8)) (lf ls 8).nat ((lf ls 9).lst (.int .i8))
    (fun y11 y13 => k (.vl (.agg [(.one (.slc 2 0 1 0 (lf ls 1).nat (lf ls 1).nat)), (.one (.slc 3 0 1 0 (lf ls 4).nat (lf ls 4).nat))])) [[(.seq (.int .i8) (lf ls 6).nat ((lf ls 7).lst (.int .i8)))], [(.seq (.int .i8) (lf ls 8).nat ((lf ls 9).lst (.int .i8)))]] [[(.seq (.int .i8) (lf ls 1).nat y11)], [(.seq (.int .i8) (lf ls 4).nat y13)]])
def g37hd (G_g74 : {α : Type} → Nat → Nat → Nat → Nat → (List Int) → ((List Int) → Option α) → Option α)  : Hd where
  call := fun f args Bs k => cond (Nat.beq f 74) (rowK g74tp g74bp (g74K G_g74) args Bs k) (none)
  loop := fun id st k => none
  ro := fun f => cond (Nat.beq f 74) [0] ([])
def g37h (m : Nat) : Hd := g37hd (g74 m)
theorem g37Main (G_g74 : {α : Type} → Nat → Nat → Nat → Nat → (List Int) → ((List Int) → Option α) → Option α)  {α : Type} (ls : List Lf) (k : TV → List (List Seg) → List (List Seg) → Option α) :
    g37K (g37b G_g74) ls k = evFun tab (g37hd G_g74) Go.Proofs.Try.f37 (fillT g37tp ls).1 (fillB g37bp (fillT g37tp ls).2).1 k := by kernel_rfl
theorem g37Calls (m : Nat) : (g37h m).CallsOk Go.Proofs.Try.prog := (cok_cons (g74Ok m) cok_nil)
theorem g37Fn (m : Nat) : FnOk Go.Proofs.Try.prog 37 g37tp g37bp (fun {α} => g37K (g37 (α := α) m)) :=
  fn_ok (tab := tab) (h := g37h m) (fn := Go.Proofs.Try.f37) (F := fun {α} => g37K (g37 (α := α) m)) tabOk (g37Calls m) mixed (by kernel_rfl) (by kernel_rfl) (fun c hc => by
    rw [bodyOf_some hc]
    exact loopsOk_of _ (fun p hp => by rw [show loopsOf (bodyOf Go.Proofs.Try.f37) = [] by kernel_rfl] at hp; cases hp))
    (fun α ls k => g37Main (g74 m) ls k)
theorem g37Ok (m : Nat) : RowOk Go.Proofs.Try.prog 37 (fun {α} => rowK g37tp g37bp (g37K (g37 (α := α) m))) := row_of (g37Fn m)

/-! ### g86: spec.l03SameList -/
def g86l0b {α : Type}   (m143 : Nat) (m144 : Nat) (m145 : Nat) (m146 : Nat) (m147 : Nat) (m148 : Nat) (m150 : Nat) (a151 : List Int) (m152 : Nat) (a153 : List Int) (k159 : Option α) (k160 : Option α) (r161 : Int → Option α) (v149 : Int) : Option α :=
  cond (decide (v149 < ((m144 : Nat) : Int)))
   (
    if 0 ≤ v149 ∧ v149 < (m144 : Nat) then
      if (m143 + v149.toNat) < m150 then
        if 0 ≤ v149 ∧ v149 < (m147 : Nat) then
          if (m146 + v149.toNat) < m152 then
            cond ((List.getD a151 (m143 + v149.toNat) 0) != (List.getD a153 (m146 + v149.toNat) 0))
             (
              k159)
             (
              r161 (IntKind.wrap .i64 (v149 + (1 : Int))))
          else
            none
        else
          none
      else
        none
    else
      none)
   (
    k160)
def g86l0 {α : Type}   (m143 : Nat) (m144 : Nat) (m145 : Nat) (m146 : Nat) (m147 : Nat) (m148 : Nat) (m150 : Nat) (a151 : List Int) (m152 : Nat) (a153 : List Int) (k159 : Option α) (k160 : Option α) : Nat → Int → Option α
  | 0 => fun _ => none
  | m + 1 => fun v149 => g86l0b m143 m144 m145 m146 m147 m148 m150 a151 m152 a153 k159 k160 (g86l0 m143 m144 m145 m146 m147 m148 m150 a151 m152 a153 k159 k160 m) v149
def g86l0M {α : Type} (m : Nat) : Nat → Nat → Nat → Nat → Nat → Nat → Nat → (List Int) → Nat → (List Int) → (Option α) → (Option α) → Int → Option α :=
  fun m143 m144 m145 m146 m147 m148 m150 a151 m152 a153 k159 k160 v149 => g86l0 m143 m144 m145 m146 m147 m148 m150 a151 m152 a153 k159 k160 m v149
def g86l0D : LoopD := { n := 26, low := [0, 1], sl := [0, 1, 5], bl := [0, 1], tp := [(.vl (.sv (.slc 0 0 1))), (.vl (.sv (.slc 1 0 1))), (.vl (.sv (.int .i64)))], bp := [(false, [(.seqv (.int .i8))]), (false, [(.seqv (.int .i8))])], xs := [(1, [4]), (2, [])] }
def g86l0K {α : Type} (L : Nat → Nat → Nat → Nat → Nat → Nat → Nat → (List Int) → Nat → (List Int) → (Option α) → (Option α) → Int → Option α) (ls : List Lf) (k : Ex → St → Option α) : Option α :=
  L (lf ls 0).nat (lf ls 1).nat (lf ls 2).nat (lf ls 3).nat (lf ls 4).nat (lf ls 5).nat (lf ls 7).nat ((lf ls 8).lst (.int .i8)) (lf ls 9).nat ((lf ls 10).lst (.int .i8))
    (k .ret (mkSt 26 [4] [(.vl (.sv (.bool false)))] [0, 1] [(false, [(.seq (.int .i8) (lf ls 7).nat ((lf ls 8).lst (.int .i8)))]), (false, [(.seq (.int .i8) (lf ls 9).nat ((lf ls 10).lst (.int .i8)))])]))
    (k .normal (mkSt 26 [] [] [0, 1] [(false, [(.seq (.int .i8) (lf ls 7).nat ((lf ls 8).lst (.int .i8)))]), (false, [(.seq (.int .i8) (lf ls 9).nat ((lf ls 10).lst (.int .i8)))])]))
    (lf ls 6).int
def g86b {α : Type}  (L_g86l0 : {α : Type} → Nat → Nat → Nat → Nat → Nat → Nat → Nat → (List Int) → Nat → (List Int) → (Option α) → (Option α) → Int → Option α) (m132 : Nat) (m133 : Nat) (m134 : Nat) (m135 : Nat) (m136 : Nat) (m137 : Nat) (m138 : Nat) (u139 : List Int) (m140 : Nat) (u141 : List Int) (k162 : Bool → Option α) : Option α :=
  cond (((m133 : Nat) : Int) != ((m136 : Nat) : Int))
   (
    k162 false)
   (
    L_g86l0 m132 m133 m134 m135 m136 m137 m138 u139 m140 u141
      (
        k162 false)
      (
        k162 true)
      (0 : Int))
def g86 {α : Type} (m : Nat) : Nat → Nat → Nat → Nat → Nat → Nat → Nat → (List Int) → Nat → (List Int) → (Bool → Option α) → Option α :=
  g86b (g86l0M m)
def g86tp : List TP := [(.vl (.sv (.slc 0 0 1))), (.vl (.sv (.slc 1 0 1)))]
def g86bp : List BP := [(false, [(.seqv (.int .i8))]), (false, [(.seqv (.int .i8))])]
def g86K {α : Type} (G : Nat → Nat → Nat → Nat → Nat → Nat → Nat → (List Int) → Nat → (List Int) → (Bool → Option α) → Option α) (ls : List Lf) (k : TV → List (List Seg) → List (List Seg) → Option α) : Option α :=
  G (lf ls 0).nat (lf ls 1).nat (lf ls 2).nat (lf ls 3).nat (lf ls 4).nat (lf ls 5).nat (lf ls 6).nat ((lf ls 7).lst (.int .i8)) (lf ls 8).nat ((lf ls 9).lst (.int .i8))
    (fun y0 => k (.vl (.sv (.bool y0))) [[(.seq (.int .i8) (lf ls 6).nat ((lf ls 7).lst (.int .i8)))], [(.seq (.int .i8) (lf ls 8).nat ((lf ls 9).lst (.int .i8)))]] [])
def g86hd  (L_g86l0 : {α : Type} → Nat → Nat → Nat → Nat → Nat → Nat → Nat → (List Int) → Nat → (List Int) → (Option α) → (Option α) → Int → Option α) : Hd where
  call := fun f args Bs k => none
  loop := fun id st k => cond (Nat.beq id 0) (loopH g86l0D (g86l0K L_g86l0) st k) (none)
  ro := fun f => []
def g86h (m : Nat) : Hd := g86hd (g86l0M m)
theorem g86l0Step  (L_g86l0 : {α : Type} → Nat → Nat → Nat → Nat → Nat → Nat → Nat → (List Int) → Nat → (List Int) → (Option α) → (Option α) → Int → Option α) {α : Type} (L : Nat → Nat → Nat → Nat → Nat → Nat → Nat → (List Int) → Nat → (List Int) → (Option α) → (Option α) → Int → Option α) (ls : List Lf) (k : Ex → St → Option α) :
    g86l0K (fun m143 m144 m145 m146 m147 m148 m150 a151 m152 a153 k159 k160 v149 => g86l0b m143 m144 m145 m146 m147 m148 m150 a151 m152 a153 k159 k160 (L m143 m144 m145 m146 m147 m148 m150 a151 m152 a153 k159 k160) v149) ls k = ev tab (g86hd L_g86l0) (bodyAt Go.Proofs.Try.f86 0) (atHead g86l0D ls) (loopK g86l0D 0 (loopH g86l0D (g86l0K L)) k) := by kernel_rfl
theorem g86Main  (L_g86l0 : {α : Type} → Nat → Nat → Nat → Nat → Nat → Nat → Nat → (List Int) → Nat → (List Int) → (Option α) → (Option α) → Int → Option α) {α : Type} (ls : List Lf) (k : TV → List (List Seg) → List (List Seg) → Option α) :
    g86K (g86b L_g86l0) ls k = evFun tab (g86hd L_g86l0) Go.Proofs.Try.f86 (fillT g86tp ls).1 (fillB g86bp (fillT g86tp ls).2).1 k := by kernel_rfl
theorem g86Calls (m : Nat) : (g86h m).CallsOk Go.Proofs.Try.prog := cok_nil
theorem g86l0Ok (m : Nat) (α : Type) (st : St) (k : Ex → St → Option α) (r : α) (h : (g86h m).loop 0 st k = some r) :
    ∃ e st', k e st' = some r ∧ CodeS Go.Proofs.Try.prog (.block 0 (.loop (bodyAt Go.Proofs.Try.f86 0))) st e st' :=
  loop_ok (tab := tab) (h := g86h m) (F := fun n ls k => g86l0K (fun m143 m144 m145 m146 m147 m148 m150 a151 m152 a153 k159 k160 v149 => g86l0 m143 m144 m145 m146 m147 m148 m150 a151 m152 a153 k159 k160 n v149) ls k) tabOk (g86Calls m) mixed (loopsOk_of _ (fun p hp => by rw [show loopsOf (bodyAt Go.Proofs.Try.f86 0) = [] by kernel_rfl] at hp; cases hp))
    (fun _ _ => rfl) (fun n ls k => g86l0Step (g86l0M m) (fun m143 m144 m145 m146 m147 m148 m150 a151 m152 a153 k159 k160 => g86l0 m143 m144 m145 m146 m147 m148 m150 a151 m152 a153 k159 k160 n) ls k) (n := m) h
theorem g86Fn (m : Nat) : FnOk Go.Proofs.Try.prog 86 g86tp g86bp (fun {α} => g86K (g86 (α := α) m)) :=
  fn_ok (tab := tab) (h := g86h m) (fn := Go.Proofs.Try.f86) (F := fun {α} => g86K (g86 (α := α) m)) tabOk (g86Calls m) mixed (by kernel_rfl) (by kernel_rfl) (fun c hc => by
    rw [bodyOf_some hc]
    exact loopsOk_of _ (fun p hp => by
    rw [show loopsOf (bodyOf Go.Proofs.Try.f86) = [(0, bodyAt Go.Proofs.Try.f86 0)] by kernel_rfl] at hp
    simp only [List.mem_cons, List.not_mem_nil, or_false] at hp
    rcases hp with rfl
    exact g86l0Ok m))
    (fun α ls k => g86Main (g86l0M m) ls k)
theorem g86Ok (m : Nat) : RowOk Go.Proofs.Try.prog 86 (fun {α} => rowK g86tp g86bp (g86K (g86 (α := α) m))) := row_of (g86Fn m)

/-! ### g73: spec.l03Same -/
def g73b {α : Type} (G_g86 : {α : Type} → Nat → Nat → Nat → Nat → Nat → Nat → Nat → (List Int) → Nat → (List Int) → (Bool → Option α) → Option α)  (m112 : Nat) (m113 : Nat) (m114 : Nat) (m115 : Nat) (m116 : Nat) (m117 : Nat) (m118 : Nat) (m119 : Nat) (m120 : Nat) (m121 : Nat) (m122 : Nat) (m123 : Nat) (m124 : Nat) (u125 : List Int) (m126 : Nat) (u127 : List Int) (m128 : Nat) (u129 : List Int) (m130 : Nat) (u131 : List Int) (k165 : Bool → Option α) : Option α :=
  G_g86 m112 m113 m114 m118 m119 m120 m124 u125 m128 u129
    (fun b163 =>
      cond b163
       (
        G_g86 m115 m116 m117 m121 m122 m123 m126 u127 m130 u131
          (fun b164 =>
            k165 b164))
       (
        k165 false))
def g73 {α : Type} (m : Nat) : Nat → Nat → Nat → Nat → Nat → Nat → Nat → Nat → Nat → Nat → Nat → Nat → Nat → (List Int) → Nat → (List Int) → Nat → (List Int) → Nat → (List Int) → (Bool → Option α) → Option α :=
  g73b (g86 m)
def g73tp : List TP := [(.vl (.sv (.ptr 0 0))), (.vl (.sv (.ptr 1 0)))]
def g73bp : List BP := [(false, [(.one (.slc 2 0 1)), (.one (.slc 3 0 1))]), (false, [(.one (.slc 4 0 1)), (.one (.slc 5 0 1))]), (false, [(.seqv (.int .i8))]), (false, [(.seqv (.int .i8))]), (false, [(.seqv (.int .i8))]), (false, [(.seqv (.int .i8))])]
def g73K {α : Type} (G : Nat → Nat → Nat → Nat → Nat → Nat → Nat → Nat → Nat → Nat → Nat → Nat → Nat → (List Int) → Nat → (List Int) → Nat → (List Int) → Nat → (List Int) → (Bool → Option α) → Option α) (ls : List Lf) (k : TV → List (List Seg) → List (List Seg) → Option α) : Option α :=
  G (lf ls 0).nat (lf ls 1).nat (lf ls 2).nat (lf ls 3).nat (lf ls 4).nat (lf ls 5).nat (lf ls 6).nat (lf ls 7).nat (lf ls 8).nat (lf ls 9).nat (lf ls 10).nat (lf ls 11).nat (lf ls 12).nat ((lf ls 13).lst (.int .i8)) (lf ls 14).nat ((lf ls 15).lst (.int .i8)) (lf ls 16).nat ((lf ls 17).lst (.int .i8)) (lf ls 18).nat ((lf ls 19).lst (.int .i8))
    (fun y0 => k (.vl (.sv (.bool y0))) [[(.one (.slc 2 0 1 (lf ls 0).nat (lf ls 1).nat (lf ls 2).nat)), (.one (.slc 3 0 1 (lf ls 3).nat (lf ls 4).nat (lf ls 5).nat))], [(.one (.slc 4 0 1 (lf ls 6).nat (lf ls 7).nat (lf ls 8).nat)), (.one (.slc 5 0 1 (lf ls 9).nat (lf ls 10).nat (lf ls 11).nat))], [(.seq (.int .i8) (lf ls 12).nat ((lf ls 13).lst (.int .i8)))], [(.seq (.int .i8) (lf ls 14).nat ((lf ls 15).lst (.int .i8)))], [(.seq (.int .i8) (lf ls 16).nat ((lf ls 17).lst (.int .i8)))], [(.seq (.int .i8) (lf ls 18).nat ((lf ls 19).lst (.int .i8)))]] [])
def g73hd (G_g86 : {α : Type} → Nat → Nat → Nat → Nat → Nat → Nat → Nat → (List Int) → Nat → (List Int) → (Bool → Option α) → Option α)  : Hd where
  call := fun f args Bs k => cond (Nat.beq f 86) (rowK g86tp g86bp (g86K G_g86) args Bs k) (none)
  loop := fun id st k => none
  ro := fun f => cond (Nat.beq f 86) [0, 1] ([])
def g73h (m : Nat) : Hd := g73hd (g86 m)
theorem g73Main (G_g86 : {α : Type} → Nat → Nat → Nat → Nat → Nat → Nat → Nat → (List Int) → Nat → (List Int) → (Bool → Option α) → Option α)  {α : Type} (ls : List Lf) (k : TV → List (List Seg) → List (List Seg) → Option α) :
    g73K (g73b G_g86) ls k = evFun tab (g73hd G_g86) Go.Proofs.Try.f73 (fillT g73tp ls).1 (fillB g73bp (fillT g73tp ls).2).1 k := by kernel_rfl
theorem g73Calls (m : Nat) : (g73h m).CallsOk Go.Proofs.Try.prog := (cok_cons (g86Ok m) cok_nil)
theorem g73Fn (m : Nat) : FnOk Go.Proofs.Try.prog 73 g73tp g73bp (fun {α} => g73K (g73 (α := α) m)) :=
  fn_ok (tab := tab) (h := g73h m) (fn := Go.Proofs.Try.f73) (F := fun {α} => g73K (g73 (α := α) m)) tabOk (g73Calls m) mixed (by kernel_rfl) (by kernel_rfl) (fun c hc => by
    rw [bodyOf_some hc]
    exact loopsOk_of _ (fun p hp => by rw [show loopsOf (bodyOf Go.Proofs.Try.f73) = [] by kernel_rfl] at hp; cases hp))
    (fun α ls k => g73Main (g86 m) ls k)
theorem g73Ok (m : Nat) : RowOk Go.Proofs.Try.prog 73 (fun {α} => rowK g73tp g73bp (g73K (g73 (α := α) m))) := row_of (g73Fn m)

/-! ### g36: spec.SameStream -/
def g36b {α : Type} (G_g73 : {α : Type} → Nat → Nat → Nat → Nat → Nat → Nat → Nat → Nat → Nat → Nat → Nat → Nat → Nat → (List Int) → Nat → (List Int) → Nat → (List Int) → Nat → (List Int) → (Bool → Option α) → Option α)  (m92 : Nat) (m93 : Nat) (m94 : Nat) (m95 : Nat) (m96 : Nat) (m97 : Nat) (m98 : Nat) (m99 : Nat) (m100 : Nat) (m101 : Nat) (m102 : Nat) (m103 : Nat) (m104 : Nat) (u105 : List Int) (m106 : Nat) (u107 : List Int) (m108 : Nat) (u109 : List Int) (m110 : Nat) (u111 : List Int) (k167 : Bool → Option α) : Option α :=
  G_g73 m92 m93 m94 m95 m96 m97 m98 m99 m100 m101 m102 m103 m104 u105 m106 u107 m108 u109 m110 u111
    (fun b166 =>
      k167 b166)
def g36 {α : Type} (m : Nat) : Nat → Nat → Nat → Nat → Nat → Nat → Nat → Nat → Nat → Nat → Nat → Nat → Nat → (List Int) → Nat → (List Int) → Nat → (List Int) → Nat → (List Int) → (Bool → Option α) → Option α :=
  g36b (g73 m)
def g36tp : List TP := [(.vl (.agg [(.one (.slc 0 0 1)), (.one (.slc 1 0 1))])), (.vl (.agg [(.one (.slc 2 0 1)), (.one (.slc 3 0 1))]))]
def g36bp : List BP := [(false, [(.seqv (.int .i8))]), (false, [(.seqv (.int .i8))]), (false, [(.seqv (.int .i8))]), (false, [(.seqv (.int .i8))])]
def g36K {α : Type} (G : Nat → Nat → Nat → Nat → Nat → Nat → Nat → Nat → Nat → Nat → Nat → Nat → Nat → (List Int) → Nat → (List Int) → Nat → (List Int) → Nat → (List Int) → (Bool → Option α) → Option α) (ls : List Lf) (k : TV → List (List Seg) → List (List Seg) → Option α) : Option α :=
  G (lf ls 0).nat (lf ls 1).nat (lf ls 2).nat (lf ls 3).nat (lf ls 4).nat (lf ls 5).nat (lf ls 6).nat (lf ls 7).nat (lf ls 8).nat (lf ls 9).nat (lf ls 10).nat (lf ls 11).nat (lf ls 12).nat ((lf ls 13).lst (.int .i8)) (lf ls 14).nat ((lf ls 15).lst (.int .i8)) (lf ls 16).nat ((lf ls 17).lst (.int .i8)) (lf ls 18).nat ((lf ls 19).lst (.int .i8))
    (fun y0 => k (.vl (.sv (.bool y0))) [[(.seq (.int .i8) (lf ls 12).nat ((lf ls 13).lst (.int .i8)))], [(.seq (.int .i8) (lf ls 14).nat ((lf ls 15).lst (.int .i8)))], [(.seq (.int .i8) (lf ls 16).nat ((lf ls 17).lst (.int .i8)))], [(.seq (.int .i8) (lf ls 18).nat ((lf ls 19).lst (.int .i8)))]] [])
def g36hd (G_g73 : {α : Type} → Nat → Nat → Nat → Nat → Nat → Nat → Nat → Nat → Nat → Nat → Nat → Nat → Nat → (List Int) → Nat → (List Int) → Nat → (List Int) → Nat → (List Int) → (Bool → Option α) → Option α)  : Hd where
  call := fun f args Bs k => cond (Nat.beq f 73) (rowK g73tp g73bp (g73K G_g73) args Bs k) (none)
  loop := fun id st k => none
  ro := fun f => cond (Nat.beq f 73) [0, 1, 2, 3, 4, 5] ([])
def g36h (m : Nat) : Hd := g36hd (g73 m)
theorem g36Main (G_g73 : {α : Type} → Nat → Nat → Nat → Nat → Nat → Nat → Nat → Nat → Nat → Nat → Nat → Nat → Nat → (List Int) → Nat → (List Int) → Nat → (List Int) → Nat → (List Int) → (Bool → Option α) → Option α)  {α : Type} (ls : List Lf) (k : TV → List (List Seg) → List (List Seg) → Option α) :
    g36K (g36b G_g73) ls k = evFun tab (g36hd G_g73) Go.Proofs.Try.f36 (fillT g36tp ls).1 (fillB g36bp (fillT g36tp ls).2).1 k := by kernel_rfl
theorem g36Calls (m : Nat) : (g36h m).CallsOk Go.Proofs.Try.prog := (cok_cons (g73Ok m) cok_nil)
theorem g36Fn (m : Nat) : FnOk Go.Proofs.Try.prog 36 g36tp g36bp (fun {α} => g36K (g36 (α := α) m)) :=
  fn_ok (tab := tab) (h := g36h m) (fn := Go.Proofs.Try.f36) (F := fun {α} => g36K (g36 (α := α) m)) tabOk (g36Calls m) mixed (by kernel_rfl) (by kernel_rfl) (fun c hc => by
    rw [bodyOf_some hc]
    exact loopsOk_of _ (fun p hp => by rw [show loopsOf (bodyOf Go.Proofs.Try.f36) = [] by kernel_rfl] at hp; cases hp))
    (fun α ls k => g36Main (g73 m) ls k)
theorem g36Ok (m : Nat) : RowOk Go.Proofs.Try.prog 36 (fun {α} => rowK g36tp g36bp (g36K (g36 (α := α) m))) := row_of (g36Fn m)

/-! ### g75: slices.Equal[[]int8,int8] -/
def g75l0b {α : Type}   (m204 : Nat) (m205 : Nat) (m206 : Nat) (m207 : Nat) (m208 : Nat) (m209 : Nat) (v210 : Int) (m212 : Nat) (a213 : List Int) (m214 : Nat) (a215 : List Int) (k221 : Option α) (k222 : Option α) (r223 : Int → Option α) (v211 : Int) : Option α :=
  cond (decide (v211 < v210))
   (
    if 0 ≤ v211 ∧ v211 < (m205 : Nat) then
      if (m204 + v211.toNat) < m212 then
        if 0 ≤ v211 ∧ v211 < (m208 : Nat) then
          if (m207 + v211.toNat) < m214 then
            cond ((List.getD a213 (m204 + v211.toNat) 0) != (List.getD a215 (m207 + v211.toNat) 0))
             (
              k221)
             (
              r223 (IntKind.wrap .i64 (v211 + (1 : Int))))
          else
            none
        else
          none
      else
        none
    else
      none)
   (
    k222)
def g75l0 {α : Type}   (m204 : Nat) (m205 : Nat) (m206 : Nat) (m207 : Nat) (m208 : Nat) (m209 : Nat) (v210 : Int) (m212 : Nat) (a213 : List Int) (m214 : Nat) (a215 : List Int) (k221 : Option α) (k222 : Option α) : Nat → Int → Option α
  | 0 => fun _ => none
  | m + 1 => fun v211 => g75l0b m204 m205 m206 m207 m208 m209 v210 m212 a213 m214 a215 k221 k222 (g75l0 m204 m205 m206 m207 m208 m209 v210 m212 a213 m214 a215 k221 k222 m) v211
def g75l0M {α : Type} (m : Nat) : Nat → Nat → Nat → Nat → Nat → Nat → Int → Nat → (List Int) → Nat → (List Int) → (Option α) → (Option α) → Int → Option α :=
  fun m204 m205 m206 m207 m208 m209 v210 m212 a213 m214 a215 k221 k222 v211 => g75l0 m204 m205 m206 m207 m208 m209 v210 m212 a213 m214 a215 k221 k222 m v211
def g75l0D : LoopD := { n := 26, low := [0, 1], sl := [0, 1, 12, 13], bl := [0, 1], tp := [(.vl (.sv (.slc 0 0 1))), (.vl (.sv (.slc 1 0 1))), (.vl (.sv (.int .i64))), (.vl (.sv (.int .i64)))], bp := [(false, [(.seqv (.int .i8))]), (false, [(.seqv (.int .i8))])], xs := [(1, [4]), (2, [])] }
def g75l0K {α : Type} (L : Nat → Nat → Nat → Nat → Nat → Nat → Int → Nat → (List Int) → Nat → (List Int) → (Option α) → (Option α) → Int → Option α) (ls : List Lf) (k : Ex → St → Option α) : Option α :=
  L (lf ls 0).nat (lf ls 1).nat (lf ls 2).nat (lf ls 3).nat (lf ls 4).nat (lf ls 5).nat (lf ls 6).int (lf ls 8).nat ((lf ls 9).lst (.int .i8)) (lf ls 10).nat ((lf ls 11).lst (.int .i8))
    (k .ret (mkSt 26 [4] [(.vl (.sv (.bool false)))] [0, 1] [(false, [(.seq (.int .i8) (lf ls 8).nat ((lf ls 9).lst (.int .i8)))]), (false, [(.seq (.int .i8) (lf ls 10).nat ((lf ls 11).lst (.int .i8)))])]))
    (k .normal (mkSt 26 [] [] [0, 1] [(false, [(.seq (.int .i8) (lf ls 8).nat ((lf ls 9).lst (.int .i8)))]), (false, [(.seq (.int .i8) (lf ls 10).nat ((lf ls 11).lst (.int .i8)))])]))
    (lf ls 7).int
def g75b {α : Type}  (L_g75l0 : {α : Type} → Nat → Nat → Nat → Nat → Nat → Nat → Int → Nat → (List Int) → Nat → (List Int) → (Option α) → (Option α) → Int → Option α) (m193 : Nat) (m194 : Nat) (m195 : Nat) (m196 : Nat) (m197 : Nat) (m198 : Nat) (m199 : Nat) (u200 : List Int) (m201 : Nat) (u202 : List Int) (k224 : Bool → Option α) : Option α :=
  cond (((m194 : Nat) : Int) != ((m197 : Nat) : Int))
   (
    k224 false)
   (
    L_g75l0 m193 m194 m195 m196 m197 m198 ((m194 : Nat) : Int) m199 u200 m201 u202
      (
        k224 false)
      (
        k224 true)
      (0 : Int))
def g75 {α : Type} (m : Nat) : Nat → Nat → Nat → Nat → Nat → Nat → Nat → (List Int) → Nat → (List Int) → (Bool → Option α) → Option α :=
  g75b (g75l0M m)
def g75tp : List TP := [(.vl (.sv (.slc 0 0 1))), (.vl (.sv (.slc 1 0 1)))]
def g75bp : List BP := [(false, [(.seqv (.int .i8))]), (false, [(.seqv (.int .i8))])]
def g75K {α : Type} (G : Nat → Nat → Nat → Nat → Nat → Nat → Nat → (List Int) → Nat → (List Int) → (Bool → Option α) → Option α) (ls : List Lf) (k : TV → List (List Seg) → List (List Seg) → Option α) : Option α :=
  G (lf ls 0).nat (lf ls 1).nat (lf ls 2).nat (lf ls 3).nat (lf ls 4).nat (lf ls 5).nat (lf ls 6).nat ((lf ls 7).lst (.int .i8)) (lf ls 8).nat ((lf ls 9).lst (.int .i8))
    (fun y0 => k (.vl (.sv (.bool y0))) [[(.seq (.int .i8) (lf ls 6).nat ((lf ls 7).lst (.int .i8)))], [(.seq (.int .i8) (lf ls 8).nat ((lf ls 9).lst (.int .i8)))]] [])
def g75hd  (L_g75l0 : {α : Type} → Nat → Nat → Nat → Nat → Nat → Nat → Int → Nat → (List Int) → Nat → (List Int) → (Option α) → (Option α) → Int → Option α) : Hd where
  call := fun f args Bs k => none
  loop := fun id st k => cond (Nat.beq id 0) (loopH g75l0D (g75l0K L_g75l0) st k) (none)
  ro := fun f => []
def g75h (m : Nat) : Hd := g75hd (g75l0M m)
theorem g75l0Step  (L_g75l0 : {α : Type} → Nat → Nat → Nat → Nat → Nat → Nat → Int → Nat → (List Int) → Nat → (List Int) → (Option α) → (Option α) → Int → Option α) {α : Type} (L : Nat → Nat → Nat → Nat → Nat → Nat → Int → Nat → (List Int) → Nat → (List Int) → (Option α) → (Option α) → Int → Option α) (ls : List Lf) (k : Ex → St → Option α) :
    g75l0K (fun m204 m205 m206 m207 m208 m209 v210 m212 a213 m214 a215 k221 k222 v211 => g75l0b m204 m205 m206 m207 m208 m209 v210 m212 a213 m214 a215 k221 k222 (L m204 m205 m206 m207 m208 m209 v210 m212 a213 m214 a215 k221 k222) v211) ls k = ev tab (g75hd L_g75l0) (bodyAt Go.Proofs.Try.f75 0) (atHead g75l0D ls) (loopK g75l0D 0 (loopH g75l0D (g75l0K L)) k) := by kernel_rfl
theorem g75Main  (L_g75l0 : {α : Type} → Nat → Nat → Nat → Nat → Nat → Nat → Int → Nat → (List Int) → Nat → (List Int) → (Option α) → (Option α) → Int → Option α) {α : Type} (ls : List Lf) (k : TV → List (List Seg) → List (List Seg) → Option α) :
    g75K (g75b L_g75l0) ls k = evFun tab (g75hd L_g75l0) Go.Proofs.Try.f75 (fillT g75tp ls).1 (fillB g75bp (fillT g75tp ls).2).1 k := by kernel_rfl
theorem g75Calls (m : Nat) : (g75h m).CallsOk Go.Proofs.Try.prog := cok_nil
theorem g75l0Ok (m : Nat) (α : Type) (st : St) (k : Ex → St → Option α) (r : α) (h : (g75h m).loop 0 st k = some r) :
    ∃ e st', k e st' = some r ∧ CodeS Go.Proofs.Try.prog (.block 0 (.loop (bodyAt Go.Proofs.Try.f75 0))) st e st' :=
  loop_ok (tab := tab) (h := g75h m) (F := fun n ls k => g75l0K (fun m204 m205 m206 m207 m208 m209 v210 m212 a213 m214 a215 k221 k222 v211 => g75l0 m204 m205 m206 m207 m208 m209 v210 m212 a213 m214 a215 k221 k222 n v211) ls k) tabOk (g75Calls m) mixed (loopsOk_of _ (fun p hp => by rw [show loopsOf (bodyAt Go.Proofs.Try.f75 0) = [] by kernel_rfl] at hp; cases hp))
    (fun _ _ => rfl) (fun n ls k => g75l0Step (g75l0M m) (fun m204 m205 m206 m207 m208 m209 v210 m212 a213 m214 a215 k221 k222 => g75l0 m204 m205 m206 m207 m208 m209 v210 m212 a213 m214 a215 k221 k222 n) ls k) (n := m) h
theorem g75Fn (m : Nat) : FnOk Go.Proofs.Try.prog 75 g75tp g75bp (fun {α} => g75K (g75 (α := α) m)) :=
  fn_ok (tab := tab) (h := g75h m) (fn := Go.Proofs.Try.f75) (F := fun {α} => g75K (g75 (α := α) m)) tabOk (g75Calls m) mixed (by kernel_rfl) (by kernel_rfl) (fun c hc => by
    rw [bodyOf_some hc]
    exact loopsOk_of _ (fun p hp => by
    rw [show loopsOf (bodyOf Go.Proofs.Try.f75) = [(0, bodyAt Go.Proofs.Try.f75 0)] by kernel_rfl] at hp
    simp only [List.mem_cons, List.not_mem_nil, or_false] at hp
    rcases hp with rfl
    exact g75l0Ok m))
    (fun α ls k => g75Main (g75l0M m) ls k)
theorem g75Ok (m : Nat) : RowOk Go.Proofs.Try.prog 75 (fun {α} => rowK g75tp g75bp (g75K (g75 (α := α) m))) := row_of (g75Fn m)

/-! ### g38: impl.SameStream -/
def g38b {α : Type} (G_g75 : {α : Type} → Nat → Nat → Nat → Nat → Nat → Nat → Nat → (List Int) → Nat → (List Int) → (Bool → Option α) → Option α)  (m173 : Nat) (m174 : Nat) (m175 : Nat) (m176 : Nat) (m177 : Nat) (m178 : Nat) (m179 : Nat) (m180 : Nat) (m181 : Nat) (m182 : Nat) (m183 : Nat) (m184 : Nat) (m185 : Nat) (u186 : List Int) (m187 : Nat) (u188 : List Int) (m189 : Nat) (u190 : List Int) (m191 : Nat) (u192 : List Int) (k227 : Bool → Option α) : Option α :=
  G_g75 m173 m174 m175 m179 m180 m181 m185 u186 m189 u190
    (fun b225 =>
      cond b225
       (
        G_g75 m176 m177 m178 m182 m183 m184 m187 u188 m191 u192
          (fun b226 =>
            k227 b226))
       (
        k227 false))
def g38 {α : Type} (m : Nat) : Nat → Nat → Nat → Nat → Nat → Nat → Nat → Nat → Nat → Nat → Nat → Nat → Nat → (List Int) → Nat → (List Int) → Nat → (List Int) → Nat → (List Int) → (Bool → Option α) → Option α :=
  g38b (g75 m)
def g38tp : List TP := [(.vl (.agg [(.one (.slc 0 0 1)), (.one (.slc 1 0 1))])), (.vl (.agg [(.one (.slc 2 0 1)), (.one (.slc 3 0 1))]))]
def g38bp : List BP := [(false, [(.seqv (.int .i8))]), (false, [(.seqv (.int .i8))]), (false, [(.seqv (.int .i8))]), (false, [(.seqv (.int .i8))])]
def g38K {α : Type} (G : Nat → Nat → Nat → Nat → Nat → Nat → Nat → Nat → Nat → Nat → Nat → Nat → Nat → (List Int) → Nat → (List Int) → Nat → (List Int) → Nat → (List Int) → (Bool → Option α) → Option α) (ls : List Lf) (k : TV → List (List Seg) → List (List Seg) → Option α) : Option α :=
  G (lf ls 0).nat (lf ls 1).nat (lf ls 2).nat (lf ls 3).nat (lf ls 4).nat (lf ls 5).nat (lf ls 6).nat (lf ls 7).nat (lf ls 8).nat (lf ls 9).nat (lf ls 10).nat (lf ls 11).nat (lf ls 12).nat ((lf ls 13).lst (.int .i8)) (lf ls 14).nat ((lf ls 15).lst (.int .i8)) (lf ls 16).nat ((lf ls 17).lst (.int .i8)) (lf ls 18).nat ((lf ls 19).lst (.int .i8))
    (fun y0 => k (.vl (.sv (.bool y0))) [[(.seq (.int .i8) (lf ls 12).nat ((lf ls 13).lst (.int .i8)))], [(.seq (.int .i8) (lf ls 14).nat ((lf ls 15).lst (.int .i8)))], [(.seq (.int .i8) (lf ls 16).nat ((lf ls 17).lst (.int .i8)))], [(.seq (.int .i8) (lf ls 18).nat ((lf ls 19).lst (.int .i8)))]] [])
def g38hd (G_g75 : {α : Type} → Nat → Nat → Nat → Nat → Nat → Nat → Nat → (List Int) → Nat → (List Int) → (Bool → Option α) → Option α)  : Hd where
  call := fun f args Bs k => cond (Nat.beq f 75) (rowK g75tp g75bp (g75K G_g75) args Bs k) (none)
  loop := fun id st k => none
  ro := fun f => cond (Nat.beq f 75) [0, 1] ([])
def g38h (m : Nat) : Hd := g38hd (g75 m)
theorem g38Main (G_g75 : {α : Type} → Nat → Nat → Nat → Nat → Nat → Nat → Nat → (List Int) → Nat → (List Int) → (Bool → Option α) → Option α)  {α : Type} (ls : List Lf) (k : TV → List (List Seg) → List (List Seg) → Option α) :
    g38K (g38b G_g75) ls k = evFun tab (g38hd G_g75) Go.Proofs.Try.f38 (fillT g38tp ls).1 (fillB g38bp (fillT g38tp ls).2).1 k := by kernel_rfl
theorem g38Calls (m : Nat) : (g38h m).CallsOk Go.Proofs.Try.prog := (cok_cons (g75Ok m) cok_nil)
theorem g38Fn (m : Nat) : FnOk Go.Proofs.Try.prog 38 g38tp g38bp (fun {α} => g38K (g38 (α := α) m)) :=
  fn_ok (tab := tab) (h := g38h m) (fn := Go.Proofs.Try.f38) (F := fun {α} => g38K (g38 (α := α) m)) tabOk (g38Calls m) mixed (by kernel_rfl) (by kernel_rfl) (fun c hc => by
    rw [bodyOf_some hc]
    exact loopsOk_of _ (fun p hp => by rw [show loopsOf (bodyOf Go.Proofs.Try.f38) = [] by kernel_rfl] at hp; cases hp))
    (fun α ls k => g38Main (g75 m) ls k)
theorem g38Ok (m : Nat) : RowOk Go.Proofs.Try.prog 38 (fun {α} => rowK g38tp g38bp (g38K (g38 (α := α) m))) := row_of (g38Fn m)

/-! ### g54: laws.eqInt8S -/
def g54l0b {α : Type}   (m263 : Nat) (m264 : Nat) (m265 : Nat) (m266 : Nat) (m267 : Nat) (m268 : Nat) (m270 : Nat) (a271 : List Int) (m272 : Nat) (a273 : List Int) (k279 : Option α) (k280 : Option α) (r281 : Int → Option α) (v269 : Int) : Option α :=
  cond (decide (v269 < ((m264 : Nat) : Int)))
   (
    if 0 ≤ v269 ∧ v269 < (m264 : Nat) then
      if (m263 + v269.toNat) < m270 then
        if 0 ≤ v269 ∧ v269 < (m267 : Nat) then
          if (m266 + v269.toNat) < m272 then
            cond ((List.getD a271 (m263 + v269.toNat) 0) != (List.getD a273 (m266 + v269.toNat) 0))
             (
              k279)
             (
              r281 (IntKind.wrap .i64 (v269 + (1 : Int))))
          else
            none
        else
          none
      else
        none
    else
      none)
   (
    k280)
def g54l0 {α : Type}   (m263 : Nat) (m264 : Nat) (m265 : Nat) (m266 : Nat) (m267 : Nat) (m268 : Nat) (m270 : Nat) (a271 : List Int) (m272 : Nat) (a273 : List Int) (k279 : Option α) (k280 : Option α) : Nat → Int → Option α
  | 0 => fun _ => none
  | m + 1 => fun v269 => g54l0b m263 m264 m265 m266 m267 m268 m270 a271 m272 a273 k279 k280 (g54l0 m263 m264 m265 m266 m267 m268 m270 a271 m272 a273 k279 k280 m) v269
def g54l0M {α : Type} (m : Nat) : Nat → Nat → Nat → Nat → Nat → Nat → Nat → (List Int) → Nat → (List Int) → (Option α) → (Option α) → Int → Option α :=
  fun m263 m264 m265 m266 m267 m268 m270 a271 m272 a273 k279 k280 v269 => g54l0 m263 m264 m265 m266 m267 m268 m270 a271 m272 a273 k279 k280 m v269
def g54l0D : LoopD := { n := 26, low := [0, 1], sl := [0, 1, 5], bl := [0, 1], tp := [(.vl (.sv (.slc 0 0 1))), (.vl (.sv (.slc 1 0 1))), (.vl (.sv (.int .i64)))], bp := [(false, [(.seqv (.int .i8))]), (false, [(.seqv (.int .i8))])], xs := [(1, [4]), (2, [])] }
def g54l0K {α : Type} (L : Nat → Nat → Nat → Nat → Nat → Nat → Nat → (List Int) → Nat → (List Int) → (Option α) → (Option α) → Int → Option α) (ls : List Lf) (k : Ex → St → Option α) : Option α :=
  L (lf ls 0).nat (lf ls 1).nat (lf ls 2).nat (lf ls 3).nat (lf ls 4).nat (lf ls 5).nat (lf ls 7).nat ((lf ls 8).lst (.int .i8)) (lf ls 9).nat ((lf ls 10).lst (.int .i8))
    (k .ret (mkSt 26 [4] [(.vl (.sv (.bool false)))] [0, 1] [(false, [(.seq (.int .i8) (lf ls 7).nat ((lf ls 8).lst (.int .i8)))]), (false, [(.seq (.int .i8) (lf ls 9).nat ((lf ls 10).lst (.int .i8)))])]))
    (k .normal (mkSt 26 [] [] [0, 1] [(false, [(.seq (.int .i8) (lf ls 7).nat ((lf ls 8).lst (.int .i8)))]), (false, [(.seq (.int .i8) (lf ls 9).nat ((lf ls 10).lst (.int .i8)))])]))
    (lf ls 6).int
def g54b {α : Type}  (L_g54l0 : {α : Type} → Nat → Nat → Nat → Nat → Nat → Nat → Nat → (List Int) → Nat → (List Int) → (Option α) → (Option α) → Int → Option α) (m252 : Nat) (m253 : Nat) (m254 : Nat) (m255 : Nat) (m256 : Nat) (m257 : Nat) (m258 : Nat) (u259 : List Int) (m260 : Nat) (u261 : List Int) (k282 : Bool → Option α) : Option α :=
  cond (((m253 : Nat) : Int) != ((m256 : Nat) : Int))
   (
    k282 false)
   (
    L_g54l0 m252 m253 m254 m255 m256 m257 m258 u259 m260 u261
      (
        k282 false)
      (
        k282 true)
      (0 : Int))
def g54 {α : Type} (m : Nat) : Nat → Nat → Nat → Nat → Nat → Nat → Nat → (List Int) → Nat → (List Int) → (Bool → Option α) → Option α :=
  g54b (g54l0M m)
def g54tp : List TP := [(.vl (.sv (.slc 0 0 1))), (.vl (.sv (.slc 1 0 1)))]
def g54bp : List BP := [(false, [(.seqv (.int .i8))]), (false, [(.seqv (.int .i8))])]
def g54K {α : Type} (G : Nat → Nat → Nat → Nat → Nat → Nat → Nat → (List Int) → Nat → (List Int) → (Bool → Option α) → Option α) (ls : List Lf) (k : TV → List (List Seg) → List (List Seg) → Option α) : Option α :=
  G (lf ls 0).nat (lf ls 1).nat (lf ls 2).nat (lf ls 3).nat (lf ls 4).nat (lf ls 5).nat (lf ls 6).nat ((lf ls 7).lst (.int .i8)) (lf ls 8).nat ((lf ls 9).lst (.int .i8))
    (fun y0 => k (.vl (.sv (.bool y0))) [[(.seq (.int .i8) (lf ls 6).nat ((lf ls 7).lst (.int .i8)))], [(.seq (.int .i8) (lf ls 8).nat ((lf ls 9).lst (.int .i8)))]] [])
def g54hd  (L_g54l0 : {α : Type} → Nat → Nat → Nat → Nat → Nat → Nat → Nat → (List Int) → Nat → (List Int) → (Option α) → (Option α) → Int → Option α) : Hd where
  call := fun f args Bs k => none
  loop := fun id st k => cond (Nat.beq id 0) (loopH g54l0D (g54l0K L_g54l0) st k) (none)
  ro := fun f => []
def g54h (m : Nat) : Hd := g54hd (g54l0M m)
theorem g54l0Step  (L_g54l0 : {α : Type} → Nat → Nat → Nat → Nat → Nat → Nat → Nat → (List Int) → Nat → (List Int) → (Option α) → (Option α) → Int → Option α) {α : Type} (L : Nat → Nat → Nat → Nat → Nat → Nat → Nat → (List Int) → Nat → (List Int) → (Option α) → (Option α) → Int → Option α) (ls : List Lf) (k : Ex → St → Option α) :
    g54l0K (fun m263 m264 m265 m266 m267 m268 m270 a271 m272 a273 k279 k280 v269 => g54l0b m263 m264 m265 m266 m267 m268 m270 a271 m272 a273 k279 k280 (L m263 m264 m265 m266 m267 m268 m270 a271 m272 a273 k279 k280) v269) ls k = ev tab (g54hd L_g54l0) (bodyAt Go.Proofs.Try.f54 0) (atHead g54l0D ls) (loopK g54l0D 0 (loopH g54l0D (g54l0K L)) k) := by kernel_rfl
theorem g54Main  (L_g54l0 : {α : Type} → Nat → Nat → Nat → Nat → Nat → Nat → Nat → (List Int) → Nat → (List Int) → (Option α) → (Option α) → Int → Option α) {α : Type} (ls : List Lf) (k : TV → List (List Seg) → List (List Seg) → Option α) :
    g54K (g54b L_g54l0) ls k = evFun tab (g54hd L_g54l0) Go.Proofs.Try.f54 (fillT g54tp ls).1 (fillB g54bp (fillT g54tp ls).2).1 k := by kernel_rfl
theorem g54Calls (m : Nat) : (g54h m).CallsOk Go.Proofs.Try.prog := cok_nil
theorem g54l0Ok (m : Nat) (α : Type) (st : St) (k : Ex → St → Option α) (r : α) (h : (g54h m).loop 0 st k = some r) :
    ∃ e st', k e st' = some r ∧ CodeS Go.Proofs.Try.prog (.block 0 (.loop (bodyAt Go.Proofs.Try.f54 0))) st e st' :=
  loop_ok (tab := tab) (h := g54h m) (F := fun n ls k => g54l0K (fun m263 m264 m265 m266 m267 m268 m270 a271 m272 a273 k279 k280 v269 => g54l0 m263 m264 m265 m266 m267 m268 m270 a271 m272 a273 k279 k280 n v269) ls k) tabOk (g54Calls m) mixed (loopsOk_of _ (fun p hp => by rw [show loopsOf (bodyAt Go.Proofs.Try.f54 0) = [] by kernel_rfl] at hp; cases hp))
    (fun _ _ => rfl) (fun n ls k => g54l0Step (g54l0M m) (fun m263 m264 m265 m266 m267 m268 m270 a271 m272 a273 k279 k280 => g54l0 m263 m264 m265 m266 m267 m268 m270 a271 m272 a273 k279 k280 n) ls k) (n := m) h
theorem g54Fn (m : Nat) : FnOk Go.Proofs.Try.prog 54 g54tp g54bp (fun {α} => g54K (g54 (α := α) m)) :=
  fn_ok (tab := tab) (h := g54h m) (fn := Go.Proofs.Try.f54) (F := fun {α} => g54K (g54 (α := α) m)) tabOk (g54Calls m) mixed (by kernel_rfl) (by kernel_rfl) (fun c hc => by
    rw [bodyOf_some hc]
    exact loopsOk_of _ (fun p hp => by
    rw [show loopsOf (bodyOf Go.Proofs.Try.f54) = [(0, bodyAt Go.Proofs.Try.f54 0)] by kernel_rfl] at hp
    simp only [List.mem_cons, List.not_mem_nil, or_false] at hp
    rcases hp with rfl
    exact g54l0Ok m))
    (fun α ls k => g54Main (g54l0M m) ls k)
theorem g54Ok (m : Nat) : RowOk Go.Proofs.Try.prog 54 (fun {α} => rowK g54tp g54bp (g54K (g54 (α := α) m))) := row_of (g54Fn m)

/-! ### g39: laws.eqStream -/
def g39b {α : Type} (G_g54 : {α : Type} → Nat → Nat → Nat → Nat → Nat → Nat → Nat → (List Int) → Nat → (List Int) → (Bool → Option α) → Option α)  (m232 : Nat) (m233 : Nat) (m234 : Nat) (m235 : Nat) (m236 : Nat) (m237 : Nat) (m238 : Nat) (m239 : Nat) (m240 : Nat) (m241 : Nat) (m242 : Nat) (m243 : Nat) (m244 : Nat) (u245 : List Int) (m246 : Nat) (u247 : List Int) (m248 : Nat) (u249 : List Int) (m250 : Nat) (u251 : List Int) (k287 : Bool → Option α) : Option α :=
  G_g54 m232 m233 m234 m238 m239 m240 m244 u245 m248 u249
    (fun b283 =>
      cond (!b283)
       (
        k287 false)
       (
        G_g54 m235 m236 m237 m241 m242 m243 m246 u247 m250 u251
          (fun b285 =>
            cond (!b285)
             (
              k287 false)
             (
              k287 true))))
def g39 {α : Type} (m : Nat) : Nat → Nat → Nat → Nat → Nat → Nat → Nat → Nat → Nat → Nat → Nat → Nat → Nat → (List Int) → Nat → (List Int) → Nat → (List Int) → Nat → (List Int) → (Bool → Option α) → Option α :=
  g39b (g54 m)
def g39tp : List TP := [(.vl (.agg [(.one (.slc 0 0 1)), (.one (.slc 1 0 1))])), (.vl (.agg [(.one (.slc 2 0 1)), (.one (.slc 3 0 1))]))]
def g39bp : List BP := [(false, [(.seqv (.int .i8))]), (false, [(.seqv (.int .i8))]), (false, [(.seqv (.int .i8))]), (false, [(.seqv (.int .i8))])]
def g39K {α : Type} (G : Nat → Nat → Nat → Nat → Nat → Nat → Nat → Nat → Nat → Nat → Nat → Nat → Nat → (List Int) → Nat → (List Int) → Nat → (List Int) → Nat → (List Int) → (Bool → Option α) → Option α) (ls : List Lf) (k : TV → List (List Seg) → List (List Seg) → Option α) : Option α :=
  G (lf ls 0).nat (lf ls 1).nat (lf ls 2).nat (lf ls 3).nat (lf ls 4).nat (lf ls 5).nat (lf ls 6).nat (lf ls 7).nat (lf ls 8).nat (lf ls 9).nat (lf ls 10).nat (lf ls 11).nat (lf ls 12).nat ((lf ls 13).lst (.int .i8)) (lf ls 14).nat ((lf ls 15).lst (.int .i8)) (lf ls 16).nat ((lf ls 17).lst (.int .i8)) (lf ls 18).nat ((lf ls 19).lst (.int .i8))
    (fun y0 => k (.vl (.sv (.bool y0))) [[(.seq (.int .i8) (lf ls 12).nat ((lf ls 13).lst (.int .i8)))], [(.seq (.int .i8) (lf ls 14).nat ((lf ls 15).lst (.int .i8)))], [(.seq (.int .i8) (lf ls 16).nat ((lf ls 17).lst (.int .i8)))], [(.seq (.int .i8) (lf ls 18).nat ((lf ls 19).lst (.int .i8)))]] [])
def g39hd (G_g54 : {α : Type} → Nat → Nat → Nat → Nat → Nat → Nat → Nat → (List Int) → Nat → (List Int) → (Bool → Option α) → Option α)  : Hd where
  call := fun f args Bs k => cond (Nat.beq f 54) (rowK g54tp g54bp (g54K G_g54) args Bs k) (none)
  loop := fun id st k => none
  ro := fun f => cond (Nat.beq f 54) [0, 1] ([])
def g39h (m : Nat) : Hd := g39hd (g54 m)
theorem g39Main (G_g54 : {α : Type} → Nat → Nat → Nat → Nat → Nat → Nat → Nat → (List Int) → Nat → (List Int) → (Bool → Option α) → Option α)  {α : Type} (ls : List Lf) (k : TV → List (List Seg) → List (List Seg) → Option α) :
    g39K (g39b G_g54) ls k = evFun tab (g39hd G_g54) Go.Proofs.Try.f39 (fillT g39tp ls).1 (fillB g39bp (fillT g39tp ls).2).1 k := by kernel_rfl
theorem g39Calls (m : Nat) : (g39h m).CallsOk Go.Proofs.Try.prog := (cok_cons (g54Ok m) cok_nil)
theorem g39Fn (m : Nat) : FnOk Go.Proofs.Try.prog 39 g39tp g39bp (fun {α} => g39K (g39 (α := α) m)) :=
  fn_ok (tab := tab) (h := g39h m) (fn := Go.Proofs.Try.f39) (F := fun {α} => g39K (g39 (α := α) m)) tabOk (g39Calls m) mixed (by kernel_rfl) (by kernel_rfl) (fun c hc => by
    rw [bodyOf_some hc]
    exact loopsOk_of _ (fun p hp => by rw [show loopsOf (bodyOf Go.Proofs.Try.f39) = [] by kernel_rfl] at hp; cases hp))
    (fun α ls k => g39Main (g54 m) ls k)
theorem g39Ok (m : Nat) : RowOk Go.Proofs.Try.prog 39 (fun {α} => rowK g39tp g39bp (g39K (g39 (α := α) m))) := row_of (g39Fn m)

/-! ### g10: laws.FnExactSameStream -/
def g10b {α : Type} (G_g35 : {α : Type} → Nat → Nat → Nat → Nat → Nat → Nat → Int → Nat → (List Int) → Nat → (List Int) → (Int → Option α) → Option α) (G_g37 : {α : Type} → Nat → Nat → Nat → Nat → Nat → Nat → Nat → (List Int) → Nat → (List Int) → ((List Int) → (List Int) → Option α) → Option α) (G_g36 : {α : Type} → Nat → Nat → Nat → Nat → Nat → Nat → Nat → Nat → Nat → Nat → Nat → Nat → Nat → (List Int) → Nat → (List Int) → Nat → (List Int) → Nat → (List Int) → (Bool → Option α) → Option α) (G_g38 : {α : Type} → Nat → Nat → Nat → Nat → Nat → Nat → Nat → Nat → Nat → Nat → Nat → Nat → Nat → (List Int) → Nat → (List Int) → Nat → (List Int) → Nat → (List Int) → (Bool → Option α) → Option α) (G_g39 : {α : Type} → Nat → Nat → Nat → Nat → Nat → Nat → Nat → Nat → Nat → Nat → Nat → Nat → Nat → (List Int) → Nat → (List Int) → Nat → (List Int) → Nat → (List Int) → (Bool → Option α) → Option α)  (m1 : Nat) (m2 : Nat) (m3 : Nat) (m4 : Nat) (m5 : Nat) (m6 : Nat) (m7 : Nat) (m8 : Nat) (m9 : Nat) (m10 : Nat) (m11 : Nat) (m12 : Nat) (m13 : Nat) (u14 : List Int) (m15 : Nat) (u16 : List Int) (m17 : Nat) (u18 : List Int) (m19 : Nat) (u20 : List Int) (k294 : Bool → Option α) : Option α :=
  G_g35 m1 m2 m3 m4 m5 m6 (1048576 : Int) m13 u14 m15 u16
    (fun x46 =>
      cond (decide (x46 < (0 : Int)))
       (
        k294 true)
       (
        G_g35 m7 m8 m9 m10 m11 m12 x46 m17 u18 m19 u20
          (fun x48 =>
            cond (decide (x48 < (0 : Int)))
             (
              k294 true)
             (
              G_g37 m1 m2 m3 m4 m5 m6 m13 u14 m15 u16
                (fun l88 l89 =>
                  G_g37 m7 m8 m9 m10 m11 m12 m17 u18 m19 u20
                    (fun l90 l91 =>
                      G_g36 0 m2 m2 0 m5 m5 0 m8 m8 0 m11 m11 m2 l88 m5 l89 m8 l90 m11 l91
                        (fun b168 =>
                          G_g37 m1 m2 m3 m4 m5 m6 m13 u14 m15 u16
                            (fun l169 l170 =>
                              G_g37 m7 m8 m9 m10 m11 m12 m17 u18 m19 u20
                                (fun l171 l172 =>
                                  G_g38 0 m2 m2 0 m5 m5 0 m8 m8 0 m11 m11 m2 l169 m5 l170 m8 l171 m11 l172
                                    (fun b228 =>
                                      cond (!(b228 == b168))
                                       (
                                        k294 false)
                                       (
                                        G_g37 m1 m2 m3 m4 m5 m6 m13 u14 m15 u16
                                          (fun l230 l231 =>
                                            G_g39 0 m2 m2 0 m5 m5 0 m2 m2 0 m5 m5 m2 l169 m5 l170 m2 l230 m5 l231
                                              (fun b288 =>
                                                cond (!b288)
                                                 (
                                                  k294 false)
                                                 (
                                                  G_g37 m7 m8 m9 m10 m11 m12 m17 u18 m19 u20
                                                    (fun l290 l291 =>
                                                      G_g39 0 m8 m8 0 m11 m11 0 m8 m8 0 m11 m11 m8 l171 m11 l172 m8 l290 m11 l291
                                                        (fun b292 =>
                                                          cond (!b292)
                                                           (
                                                            k294 false)
                                                           (
                                                            k294 true)))))))))))))))))
def g10 {α : Type} (m : Nat) : Nat → Nat → Nat → Nat → Nat → Nat → Nat → Nat → Nat → Nat → Nat → Nat → Nat → (List Int) → Nat → (List Int) → Nat → (List Int) → Nat → (List Int) → (Bool → Option α) → Option α :=
  g10b (g35 m) (g37 m) (g36 m) (g38 m) (g39 m)
def g10tp : List TP := [(.vl (.agg [(.one (.sla 0 0 1)), (.one (.sla 1 0 1))])), (.vl (.agg [(.one (.sla 2 0 1)), (.one (.sla 3 0 1))]))]
def g10bp : List BP := [(false, [(.seqv (.int .i8))]), (false, [(.seqv (.int .i8))]), (false, [(.seqv (.int .i8))]), (false, [(.seqv (.int .i8))])]
def g10K {α : Type} (G : Nat → Nat → Nat → Nat → Nat → Nat → Nat → Nat → Nat → Nat → Nat → Nat → Nat → (List Int) → Nat → (List Int) → Nat → (List Int) → Nat → (List Int) → (Bool → Option α) → Option α) (ls : List Lf) (k : TV → List (List Seg) → List (List Seg) → Option α) : Option α :=
  G (lf ls 0).nat (lf ls 1).nat (lf ls 2).nat (lf ls 3).nat (lf ls 4).nat (lf ls 5).nat (lf ls 6).nat (lf ls 7).nat (lf ls 8).nat (lf ls 9).nat (lf ls 10).nat (lf ls 11).nat (lf ls 12).nat ((lf ls 13).lst (.int .i8)) (lf ls 14).nat ((lf ls 15).lst (.int .i8)) (lf ls 16).nat ((lf ls 17).lst (.int .i8)) (lf ls 18).nat ((lf ls 19).lst (.int .i8))
    (fun y0 => k (.vl (.sv (.bool y0))) [[(.seq (.int .i8) (lf ls 12).nat ((lf ls 13).lst (.int .i8)))], [(.seq (.int .i8) (lf ls 14).nat ((lf ls 15).lst (.int .i8)))], [(.seq (.int .i8) (lf ls 16).nat ((lf ls 17).lst (.int .i8)))], [(.seq (.int .i8) (lf ls 18).nat ((lf ls 19).lst (.int .i8)))]] [])
def g10hd (G_g35 : {α : Type} → Nat → Nat → Nat → Nat → Nat → Nat → Int → Nat → (List Int) → Nat → (List Int) → (Int → Option α) → Option α) (G_g37 : {α : Type} → Nat → Nat → Nat → Nat → Nat → Nat → Nat → (List Int) → Nat → (List Int) → ((List Int) → (List Int) → Option α) → Option α) (G_g36 : {α : Type} → Nat → Nat → Nat → Nat → Nat → Nat → Nat → Nat → Nat → Nat → Nat → Nat → Nat → (List Int) → Nat → (List Int) → Nat → (List Int) → Nat → (List Int) → (Bool → Option α) → Option α) (G_g38 : {α : Type} → Nat → Nat → Nat → Nat → Nat → Nat → Nat → Nat → Nat → Nat → Nat → Nat → Nat → (List Int) → Nat → (List Int) → Nat → (List Int) → Nat → (List Int) → (Bool → Option α) → Option α) (G_g39 : {α : Type} → Nat → Nat → Nat → Nat → Nat → Nat → Nat → Nat → Nat → Nat → Nat → Nat → Nat → (List Int) → Nat → (List Int) → Nat → (List Int) → Nat → (List Int) → (Bool → Option α) → Option α)  : Hd where
  call := fun f args Bs k => cond (Nat.beq f 35) (rowK g35tp g35bp (g35K G_g35) args Bs k) (cond (Nat.beq f 37) (rowK g37tp g37bp (g37K G_g37) args Bs k) (cond (Nat.beq f 36) (rowK g36tp g36bp (g36K G_g36) args Bs k) (cond (Nat.beq f 38) (rowK g38tp g38bp (g38K G_g38) args Bs k) (cond (Nat.beq f 39) (rowK g39tp g39bp (g39K G_g39) args Bs k) (none)))))
  loop := fun id st k => none
  ro := fun f => cond (Nat.beq f 35) [0, 1] (cond (Nat.beq f 36) [0, 1, 2, 3] (cond (Nat.beq f 37) [0, 1] (cond (Nat.beq f 38) [0, 1, 2, 3] (cond (Nat.beq f 39) [0, 1, 2, 3] ([])))))
def g10h (m : Nat) : Hd := g10hd (g35 m) (g37 m) (g36 m) (g38 m) (g39 m)
theorem g10Main (G_g35 : {α : Type} → Nat → Nat → Nat → Nat → Nat → Nat → Int → Nat → (List Int) → Nat → (List Int) → (Int → Option α) → Option α) (G_g37 : {α : Type} → Nat → Nat → Nat → Nat → Nat → Nat → Nat → (List Int) → Nat → (List Int) → ((List Int) → (List Int) → Option α) → Option α) (G_g36 : {α : Type} → Nat → Nat → Nat → Nat → Nat → Nat → Nat → Nat → Nat → Nat → Nat → Nat → Nat → (List Int) → Nat → (List Int) → Nat → (List Int) → Nat → (List Int) → (Bool → Option α) → Option α) (G_g38 : {α : Type} → Nat → Nat → Nat → Nat → Nat → Nat → Nat → Nat → Nat → Nat → Nat → Nat → Nat → (List Int) → Nat → (List Int) → Nat → (List Int) → Nat → (List Int) → (Bool → Option α) → Option α) (G_g39 : {α : Type} → Nat → Nat → Nat → Nat → Nat → Nat → Nat → Nat → Nat → Nat → Nat → Nat → Nat → (List Int) → Nat → (List Int) → Nat → (List Int) → Nat → (List Int) → (Bool → Option α) → Option α)  {α : Type} (ls : List Lf) (k : TV → List (List Seg) → List (List Seg) → Option α) :
    g10K (g10b G_g35 G_g37 G_g36 G_g38 G_g39) ls k = evFun tab (g10hd G_g35 G_g37 G_g36 G_g38 G_g39) Go.Proofs.Try.f10 (fillT g10tp ls).1 (fillB g10bp (fillT g10tp ls).2).1 k := by kernel_rfl
theorem g10Calls (m : Nat) : (g10h m).CallsOk Go.Proofs.Try.prog := (cok_cons (g35Ok m) (cok_cons (g37Ok m) (cok_cons (g36Ok m) (cok_cons (g38Ok m) (cok_cons (g39Ok m) cok_nil)))))
theorem g10Fn (m : Nat) : FnOk Go.Proofs.Try.prog 10 g10tp g10bp (fun {α} => g10K (g10 (α := α) m)) :=
  fn_ok (tab := tab) (h := g10h m) (fn := Go.Proofs.Try.f10) (F := fun {α} => g10K (g10 (α := α) m)) tabOk (g10Calls m) mixed (by kernel_rfl) (by kernel_rfl) (fun c hc => by
    rw [bodyOf_some hc]
    exact loopsOk_of _ (fun p hp => by rw [show loopsOf (bodyOf Go.Proofs.Try.f10) = [] by kernel_rfl] at hp; cases hp))
    (fun α ls k => g10Main (g35 m) (g37 m) (g36 m) (g38 m) (g39 m) ls k)
theorem g10Ok (m : Nat) : RowOk Go.Proofs.Try.prog 10 (fun {α} => rowK g10tp g10bp (g10K (g10 (α := α) m))) := row_of (g10Fn m)

/-! ### g63: spec.l00In -/
def g63b {α : Type}   (p330 : Int) (p331 : Int) (p332 : Int) (k335 : Bool → Option α) : Option α :=
  cond (decide (p330 ≥ p331))
   (
    k335 (decide (p330 ≤ p332)))
   (
    k335 false)
def g63 {α : Type} (m : Nat) : Int → Int → Int → (Bool → Option α) → Option α :=
  g63b
def g63tp : List TP := [(.vl (.sv (.int .i64))), (.vl (.sv (.int .i64))), (.vl (.sv (.int .i64)))]
def g63bp : List BP := []
def g63K {α : Type} (G : Int → Int → Int → (Bool → Option α) → Option α) (ls : List Lf) (k : TV → List (List Seg) → List (List Seg) → Option α) : Option α :=
  G (lf ls 0).int (lf ls 1).int (lf ls 2).int
    (fun y0 => k (.vl (.sv (.bool y0))) [] [])
def g63hd   : Hd where
  call := fun f args Bs k => none
  loop := fun id st k => none
  ro := fun f => []
def g63h (m : Nat) : Hd := g63hd
theorem g63Main   {α : Type} (ls : List Lf) (k : TV → List (List Seg) → List (List Seg) → Option α) :
    g63K (g63b) ls k = evFun tab (g63hd) Go.Proofs.Try.f63 (fillT g63tp ls).1 (fillB g63bp (fillT g63tp ls).2).1 k := by kernel_rfl
theorem g63Calls (m : Nat) : (g63h m).CallsOk Go.Proofs.Try.prog := cok_nil
theorem g63Fn (m : Nat) : FnOk Go.Proofs.Try.prog 63 g63tp g63bp (fun {α} => g63K (g63 (α := α) m)) :=
  fn_ok (tab := tab) (h := g63h m) (fn := Go.Proofs.Try.f63) (F := fun {α} => g63K (g63 (α := α) m)) tabOk (g63Calls m) mixed (by kernel_rfl) (by kernel_rfl) (fun c hc => by
    rw [bodyOf_some hc]
    exact loopsOk_of _ (fun p hp => by rw [show loopsOf (bodyOf Go.Proofs.Try.f63) = [] by kernel_rfl] at hp; cases hp))
    (fun α ls k => g63Main ls k)
theorem g63Ok (m : Nat) : RowOk Go.Proofs.Try.prog 63 (fun {α} => rowK g63tp g63bp (g63K (g63 (α := α) m))) := row_of (g63Fn m)

/-! ### g87: spec.l03Digits -/
def g87l0b {α : Type}   (m342 : Nat) (m343 : Nat) (m344 : Nat) (m346 : Nat) (a347 : List Int) (k354 : Option α) (k355 : Option α) (r356 : Int → Option α) (v345 : Int) : Option α :=
  cond (decide (v345 < ((m343 : Nat) : Int)))
   (
    if 0 ≤ v345 ∧ v345 < (m343 : Nat) then
      if (m342 + v345.toNat) < m346 then
        cond (decide ((List.getD a347 (m342 + v345.toNat) 0) < (-1 : Int)))
         (
          k354)
         (
          if 0 ≤ v345 ∧ v345 < (m343 : Nat) then
            if (m342 + v345.toNat) < m346 then
              cond (decide ((List.getD a347 (m342 + v345.toNat) 0) > (1 : Int)))
               (
                k354)
               (
                r356 (IntKind.wrap .i64 (v345 + (1 : Int))))
            else
              none
          else
            none)
      else
        none
    else
      none)
   (
    k355)
def g87l0 {α : Type}   (m342 : Nat) (m343 : Nat) (m344 : Nat) (m346 : Nat) (a347 : List Int) (k354 : Option α) (k355 : Option α) : Nat → Int → Option α
  | 0 => fun _ => none
  | m + 1 => fun v345 => g87l0b m342 m343 m344 m346 a347 k354 k355 (g87l0 m342 m343 m344 m346 a347 k354 k355 m) v345
def g87l0M {α : Type} (m : Nat) : Nat → Nat → Nat → Nat → (List Int) → (Option α) → (Option α) → Int → Option α :=
  fun m342 m343 m344 m346 a347 k354 k355 v345 => g87l0 m342 m343 m344 m346 a347 k354 k355 m v345
def g87l0D : LoopD := { n := 22, low := [0], sl := [0, 3], bl := [0], tp := [(.vl (.sv (.slc 0 0 1))), (.vl (.sv (.int .i64)))], bp := [(false, [(.seqv (.int .i8))])], xs := [(1, [2]), (2, [])] }
def g87l0K {α : Type} (L : Nat → Nat → Nat → Nat → (List Int) → (Option α) → (Option α) → Int → Option α) (ls : List Lf) (k : Ex → St → Option α) : Option α :=
  L (lf ls 0).nat (lf ls 1).nat (lf ls 2).nat (lf ls 4).nat ((lf ls 5).lst (.int .i8))
    (k .ret (mkSt 22 [2] [(.vl (.sv (.bool false)))] [0] [(false, [(.seq (.int .i8) (lf ls 4).nat ((lf ls 5).lst (.int .i8)))])]))
    (k .normal (mkSt 22 [] [] [0] [(false, [(.seq (.int .i8) (lf ls 4).nat ((lf ls 5).lst (.int .i8)))])]))
    (lf ls 3).int
def g87b {α : Type}  (L_g87l0 : {α : Type} → Nat → Nat → Nat → Nat → (List Int) → (Option α) → (Option α) → Int → Option α) (m337 : Nat) (m338 : Nat) (m339 : Nat) (m340 : Nat) (u341 : List Int) (k357 : Bool → Option α) : Option α :=
  L_g87l0 m337 m338 m339 m340 u341
    (
      k357 false)
    (
      k357 true)
    (0 : Int)
def g87 {α : Type} (m : Nat) : Nat → Nat → Nat → Nat → (List Int) → (Bool → Option α) → Option α :=
  g87b (g87l0M m)
def g87tp : List TP := [(.vl (.sv (.slc 0 0 1)))]
def g87bp : List BP := [(false, [(.seqv (.int .i8))])]
def g87K {α : Type} (G : Nat → Nat → Nat → Nat → (List Int) → (Bool → Option α) → Option α) (ls : List Lf) (k : TV → List (List Seg) → List (List Seg) → Option α) : Option α :=
  G (lf ls 0).nat (lf ls 1).nat (lf ls 2).nat (lf ls 3).nat ((lf ls 4).lst (.int .i8))
    (fun y0 => k (.vl (.sv (.bool y0))) [[(.seq (.int .i8) (lf ls 3).nat ((lf ls 4).lst (.int .i8)))]] [])
def g87hd  (L_g87l0 : {α : Type} → Nat → Nat → Nat → Nat → (List Int) → (Option α) → (Option α) → Int → Option α) : Hd where
  call := fun f args Bs k => none
  loop := fun id st k => cond (Nat.beq id 0) (loopH g87l0D (g87l0K L_g87l0) st k) (none)
  ro := fun f => []
def g87h (m : Nat) : Hd := g87hd (g87l0M m)
theorem g87l0Step  (L_g87l0 : {α : Type} → Nat → Nat → Nat → Nat → (List Int) → (Option α) → (Option α) → Int → Option α) {α : Type} (L : Nat → Nat → Nat → Nat → (List Int) → (Option α) → (Option α) → Int → Option α) (ls : List Lf) (k : Ex → St → Option α) :
    g87l0K (fun m342 m343 m344 m346 a347 k354 k355 v345 => g87l0b m342 m343 m344 m346 a347 k354 k355 (L m342 m343 m344 m346 a347 k354 k355) v345) ls k = ev tab (g87hd L_g87l0) (bodyAt Go.Proofs.Try.f87 0) (atHead g87l0D ls) (loopK g87l0D 0 (loopH g87l0D (g87l0K L)) k) := by kernel_rfl
theorem g87Main  (L_g87l0 : {α : Type} → Nat → Nat → Nat → Nat → (List Int) → (Option α) → (Option α) → Int → Option α) {α : Type} (ls : List Lf) (k : TV → List (List Seg) → List (List Seg) → Option α) :
    g87K (g87b L_g87l0) ls k = evFun tab (g87hd L_g87l0) Go.Proofs.Try.f87 (fillT g87tp ls).1 (fillB g87bp (fillT g87tp ls).2).1 k := by kernel_rfl
theorem g87Calls (m : Nat) : (g87h m).CallsOk Go.Proofs.Try.prog := cok_nil
theorem g87l0Ok (m : Nat) (α : Type) (st : St) (k : Ex → St → Option α) (r : α) (h : (g87h m).loop 0 st k = some r) :
    ∃ e st', k e st' = some r ∧ CodeS Go.Proofs.Try.prog (.block 0 (.loop (bodyAt Go.Proofs.Try.f87 0))) st e st' :=
  loop_ok (tab := tab) (h := g87h m) (F := fun n ls k => g87l0K (fun m342 m343 m344 m346 a347 k354 k355 v345 => g87l0 m342 m343 m344 m346 a347 k354 k355 n v345) ls k) tabOk (g87Calls m) mixed (loopsOk_of _ (fun p hp => by rw [show loopsOf (bodyAt Go.Proofs.Try.f87 0) = [] by kernel_rfl] at hp; cases hp))
    (fun _ _ => rfl) (fun n ls k => g87l0Step (g87l0M m) (fun m342 m343 m344 m346 a347 k354 k355 => g87l0 m342 m343 m344 m346 a347 k354 k355 n) ls k) (n := m) h
theorem g87Fn (m : Nat) : FnOk Go.Proofs.Try.prog 87 g87tp g87bp (fun {α} => g87K (g87 (α := α) m)) :=
  fn_ok (tab := tab) (h := g87h m) (fn := Go.Proofs.Try.f87) (F := fun {α} => g87K (g87 (α := α) m)) tabOk (g87Calls m) mixed (by kernel_rfl) (by kernel_rfl) (fun c hc => by
    rw [bodyOf_some hc]
    exact loopsOk_of _ (fun p hp => by
    rw [show loopsOf (bodyOf Go.Proofs.Try.f87) = [(0, bodyAt Go.Proofs.Try.f87 0)] by kernel_rfl] at hp
    simp only [List.mem_cons, List.not_mem_nil, or_false] at hp
    rcases hp with rfl
    exact g87l0Ok m))
    (fun α ls k => g87Main (g87l0M m) ls k)
theorem g87Ok (m : Nat) : RowOk Go.Proofs.Try.prog 87 (fun {α} => rowK g87tp g87bp (g87K (g87 (α := α) m))) := row_of (g87Fn m)

/-! ### g76: spec.l03Ok -/
def g76b {α : Type} (G_g63 : {α : Type} → Int → Int → Int → (Bool → Option α) → Option α) (G_g87 : {α : Type} → Nat → Nat → Nat → Nat → (List Int) → (Bool → Option α) → Option α)  (m319 : Nat) (m320 : Nat) (m321 : Nat) (m322 : Nat) (m323 : Nat) (m324 : Nat) (m325 : Nat) (u326 : List Int) (m327 : Nat) (u328 : List Int) (k360 : Bool → Option α) : Option α :=
  cond (decide (((m320 : Nat) : Int) ≤ (16 : Int)))
   (
    G_g63 ((m323 : Nat) : Int) (1 : Int) (14 : Int)
      (fun b336 =>
        cond b336
         (
          G_g87 m319 m320 m321 m325 u326
            (fun b358 =>
              cond b358
               (
                G_g87 m322 m323 m324 m327 u328
                  (fun b359 =>
                    k360 b359))
               (
                k360 false)))
         (
          k360 false)))
   (
    k360 false)
def g76 {α : Type} (m : Nat) : Nat → Nat → Nat → Nat → Nat → Nat → Nat → (List Int) → Nat → (List Int) → (Bool → Option α) → Option α :=
  g76b (g63 m) (g87 m)
def g76tp : List TP := [(.vl (.sv (.ptr 0 0)))]
def g76bp : List BP := [(false, [(.one (.slc 1 0 1)), (.one (.slc 2 0 1))]), (false, [(.seqv (.int .i8))]), (false, [(.seqv (.int .i8))])]
def g76K {α : Type} (G : Nat → Nat → Nat → Nat → Nat → Nat → Nat → (List Int) → Nat → (List Int) → (Bool → Option α) → Option α) (ls : List Lf) (k : TV → List (List Seg) → List (List Seg) → Option α) : Option α :=
  G (lf ls 0).nat (lf ls 1).nat (lf ls 2).nat (lf ls 3).nat (lf ls 4).nat (lf ls 5).nat (lf ls 6).nat ((lf ls 7).lst (.int .i8)) (lf ls 8).nat ((lf ls 9).lst (.int .i8))
    (fun y0 => k (.vl (.sv (.bool y0))) [[(.one (.slc 1 0 1 (lf ls 0).nat (lf ls 1).nat (lf ls 2).nat)), (.one (.slc 2 0 1 (lf ls 3).nat (lf ls 4).nat (lf ls 5).nat))], [(.seq (.int .i8) (lf ls 6).nat ((lf ls 7).lst (.int .i8)))], [(.seq (.int .i8) (lf ls 8).nat ((lf ls 9).lst (.int .i8)))]] [])
def g76hd (G_g63 : {α : Type} → Int → Int → Int → (Bool → Option α) → Option α) (G_g87 : {α : Type} → Nat → Nat → Nat → Nat → (List Int) → (Bool → Option α) → Option α)  : Hd where
  call := fun f args Bs k => cond (Nat.beq f 63) (rowK g63tp g63bp (g63K G_g63) args Bs k) (cond (Nat.beq f 87) (rowK g87tp g87bp (g87K G_g87) args Bs k) (none))
  loop := fun id st k => none
  ro := fun f => cond (Nat.beq f 87) [0] ([])
def g76h (m : Nat) : Hd := g76hd (g63 m) (g87 m)
theorem g76Main (G_g63 : {α : Type} → Int → Int → Int → (Bool → Option α) → Option α) (G_g87 : {α : Type} → Nat → Nat → Nat → Nat → (List Int) → (Bool → Option α) → Option α)  {α : Type} (ls : List Lf) (k : TV → List (List Seg) → List (List Seg) → Option α) :
    g76K (g76b G_g63 G_g87) ls k = evFun tab (g76hd G_g63 G_g87) Go.Proofs.Try.f76 (fillT g76tp ls).1 (fillB g76bp (fillT g76tp ls).2).1 k := by kernel_rfl
theorem g76Calls (m : Nat) : (g76h m).CallsOk Go.Proofs.Try.prog := (cok_cons (g63Ok m) (cok_cons (g87Ok m) cok_nil))
theorem g76Fn (m : Nat) : FnOk Go.Proofs.Try.prog 76 g76tp g76bp (fun {α} => g76K (g76 (α := α) m)) :=
  fn_ok (tab := tab) (h := g76h m) (fn := Go.Proofs.Try.f76) (F := fun {α} => g76K (g76 (α := α) m)) tabOk (g76Calls m) mixed (by kernel_rfl) (by kernel_rfl) (fun c hc => by
    rw [bodyOf_some hc]
    exact loopsOk_of _ (fun p hp => by rw [show loopsOf (bodyOf Go.Proofs.Try.f76) = [] by kernel_rfl] at hp; cases hp))
    (fun α ls k => g76Main (g63 m) (g87 m) ls k)
theorem g76Ok (m : Nat) : RowOk Go.Proofs.Try.prog 76 (fun {α} => rowK g76tp g76bp (g76K (g76 (α := α) m))) := row_of (g76Fn m)

/-! ### g40: spec.ValidStream -/
def g40b {α : Type} (G_g76 : {α : Type} → Nat → Nat → Nat → Nat → Nat → Nat → Nat → (List Int) → Nat → (List Int) → (Bool → Option α) → Option α)  (m309 : Nat) (m310 : Nat) (m311 : Nat) (m312 : Nat) (m313 : Nat) (m314 : Nat) (m315 : Nat) (u316 : List Int) (m317 : Nat) (u318 : List Int) (k362 : Bool → Option α) : Option α :=
  G_g76 m309 m310 m311 m312 m313 m314 m315 u316 m317 u318
    (fun b361 =>
      k362 b361)
def g40 {α : Type} (m : Nat) : Nat → Nat → Nat → Nat → Nat → Nat → Nat → (List Int) → Nat → (List Int) → (Bool → Option α) → Option α :=
  g40b (g76 m)
def g40tp : List TP := [(.vl (.agg [(.one (.slc 0 0 1)), (.one (.slc 1 0 1))]))]
def g40bp : List BP := [(false, [(.seqv (.int .i8))]), (false, [(.seqv (.int .i8))])]
def g40K {α : Type} (G : Nat → Nat → Nat → Nat → Nat → Nat → Nat → (List Int) → Nat → (List Int) → (Bool → Option α) → Option α) (ls : List Lf) (k : TV → List (List Seg) → List (List Seg) → Option α) : Option α :=
  G (lf ls 0).nat (lf ls 1).nat (lf ls 2).nat (lf ls 3).nat (lf ls 4).nat (lf ls 5).nat (lf ls 6).nat ((lf ls 7).lst (.int .i8)) (lf ls 8).nat ((lf ls 9).lst (.int .i8))
    (fun y0 => k (.vl (.sv (.bool y0))) [[(.seq (.int .i8) (lf ls 6).nat ((lf ls 7).lst (.int .i8)))], [(.seq (.int .i8) (lf ls 8).nat ((lf ls 9).lst (.int .i8)))]] [])
def g40hd (G_g76 : {α : Type} → Nat → Nat → Nat → Nat → Nat → Nat → Nat → (List Int) → Nat → (List Int) → (Bool → Option α) → Option α)  : Hd where
  call := fun f args Bs k => cond (Nat.beq f 76) (rowK g76tp g76bp (g76K G_g76) args Bs k) (none)
  loop := fun id st k => none
  ro := fun f => cond (Nat.beq f 76) [0, 1, 2] ([])
def g40h (m : Nat) : Hd := g40hd (g76 m)
theorem g40Main (G_g76 : {α : Type} → Nat → Nat → Nat → Nat → Nat → Nat → Nat → (List Int) → Nat → (List Int) → (Bool → Option α) → Option α)  {α : Type} (ls : List Lf) (k : TV → List (List Seg) → List (List Seg) → Option α) :
    g40K (g40b G_g76) ls k = evFun tab (g40hd G_g76) Go.Proofs.Try.f40 (fillT g40tp ls).1 (fillB g40bp (fillT g40tp ls).2).1 k := by kernel_rfl
theorem g40Calls (m : Nat) : (g40h m).CallsOk Go.Proofs.Try.prog := (cok_cons (g76Ok m) cok_nil)
theorem g40Fn (m : Nat) : FnOk Go.Proofs.Try.prog 40 g40tp g40bp (fun {α} => g40K (g40 (α := α) m)) :=
  fn_ok (tab := tab) (h := g40h m) (fn := Go.Proofs.Try.f40) (F := fun {α} => g40K (g40 (α := α) m)) tabOk (g40Calls m) mixed (by kernel_rfl) (by kernel_rfl) (fun c hc => by
    rw [bodyOf_some hc]
    exact loopsOk_of _ (fun p hp => by rw [show loopsOf (bodyOf Go.Proofs.Try.f40) = [] by kernel_rfl] at hp; cases hp))
    (fun α ls k => g40Main (g76 m) ls k)
theorem g40Ok (m : Nat) : RowOk Go.Proofs.Try.prog 40 (fun {α} => rowK g40tp g40bp (g40K (g40 (α := α) m))) := row_of (g40Fn m)

/-! ### g90: impl.isDigit -/
def g90b {α : Type}   (p404 : Int) (k407 : Bool → Option α) : Option α :=
  cond (decide (p404 ≥ (-1 : Int)))
   (
    k407 (decide (p404 ≤ (1 : Int))))
   (
    k407 false)
def g90 {α : Type} (m : Nat) : Int → (Bool → Option α) → Option α :=
  g90b
def g90tp : List TP := [(.vl (.sv (.int .i8)))]
def g90bp : List BP := []
def g90K {α : Type} (G : Int → (Bool → Option α) → Option α) (ls : List Lf) (k : TV → List (List Seg) → List (List Seg) → Option α) : Option α :=
  G (lf ls 0).int
    (fun y0 => k (.vl (.sv (.bool y0))) [] [])
def g90hd   : Hd where
  call := fun f args Bs k => none
  loop := fun id st k => none
  ro := fun f => []
def g90h (m : Nat) : Hd := g90hd
theorem g90Main   {α : Type} (ls : List Lf) (k : TV → List (List Seg) → List (List Seg) → Option α) :
    g90K (g90b) ls k = evFun tab (g90hd) Go.Proofs.Try.f90 (fillT g90tp ls).1 (fillB g90bp (fillT g90tp ls).2).1 k := by kernel_rfl
theorem g90Calls (m : Nat) : (g90h m).CallsOk Go.Proofs.Try.prog := cok_nil
theorem g90Fn (m : Nat) : FnOk Go.Proofs.Try.prog 90 g90tp g90bp (fun {α} => g90K (g90 (α := α) m)) :=
  fn_ok (tab := tab) (h := g90h m) (fn := Go.Proofs.Try.f90) (F := fun {α} => g90K (g90 (α := α) m)) tabOk (g90Calls m) mixed (by kernel_rfl) (by kernel_rfl) (fun c hc => by
    rw [bodyOf_some hc]
    exact loopsOk_of _ (fun p hp => by rw [show loopsOf (bodyOf Go.Proofs.Try.f90) = [] by kernel_rfl] at hp; cases hp))
    (fun α ls k => g90Main ls k)
theorem g90Ok (m : Nat) : RowOk Go.Proofs.Try.prog 90 (fun {α} => rowK g90tp g90bp (g90K (g90 (α := α) m))) := row_of (g90Fn m)

/-! ### g89: impl.digitsOk$1 -/
def g89b {α : Type} (G_g90 : {α : Type} → Int → (Bool → Option α) → Option α)  (p403 : Int) (k410 : Bool → Option α) : Option α :=
  G_g90 p403
    (fun b408 =>
      k410 (!b408))
def g89 {α : Type} (m : Nat) : Int → (Bool → Option α) → Option α :=
  g89b (g90 m)
def g89tp : List TP := [(.vl (.sv (.int .i8)))]
def g89bp : List BP := []
def g89K {α : Type} (G : Int → (Bool → Option α) → Option α) (ls : List Lf) (k : TV → List (List Seg) → List (List Seg) → Option α) : Option α :=
  G (lf ls 0).int
    (fun y0 => k (.vl (.sv (.bool y0))) [] [])
def g89hd (G_g90 : {α : Type} → Int → (Bool → Option α) → Option α)  : Hd where
  call := fun f args Bs k => cond (Nat.beq f 90) (rowK g90tp g90bp (g90K G_g90) args Bs k) (none)
  loop := fun id st k => none
  ro := fun f => []
def g89h (m : Nat) : Hd := g89hd (g90 m)
theorem g89Main (G_g90 : {α : Type} → Int → (Bool → Option α) → Option α)  {α : Type} (ls : List Lf) (k : TV → List (List Seg) → List (List Seg) → Option α) :
    g89K (g89b G_g90) ls k = evFun tab (g89hd G_g90) Go.Proofs.Try.f89 (fillT g89tp ls).1 (fillB g89bp (fillT g89tp ls).2).1 k := by kernel_rfl
theorem g89Calls (m : Nat) : (g89h m).CallsOk Go.Proofs.Try.prog := (cok_cons (g90Ok m) cok_nil)
theorem g89Fn (m : Nat) : FnOk Go.Proofs.Try.prog 89 g89tp g89bp (fun {α} => g89K (g89 (α := α) m)) :=
  fn_ok (tab := tab) (h := g89h m) (fn := Go.Proofs.Try.f89) (F := fun {α} => g89K (g89 (α := α) m)) tabOk (g89Calls m) mixed (by kernel_rfl) (by kernel_rfl) (fun c hc => by
    rw [bodyOf_some hc]
    exact loopsOk_of _ (fun p hp => by rw [show loopsOf (bodyOf Go.Proofs.Try.f89) = [] by kernel_rfl] at hp; cases hp))
    (fun α ls k => g89Main (g90 m) ls k)
theorem g89Ok (m : Nat) : RowOk Go.Proofs.Try.prog 89 (fun {α} => rowK g89tp g89bp (g89K (g89 (α := α) m))) := row_of (g89Fn m)

/-! ### g91: slices.IndexFunc[[]int8,int8] -/
def g91l0b {α : Type} (G_g89 : {α : Type} → Int → (Bool → Option α) → Option α)  (m394 : Nat) (m395 : Nat) (m396 : Nat) (v397 : Int) (m399 : Nat) (a400 : List Int) (k413 : Int → Option α) (k414 : Option α) (r415 : Int → Option α) (v398 : Int) : Option α :=
  cond (decide (v398 < v397))
   (
    if 0 ≤ v398 ∧ v398 < (m395 : Nat) then
      if (m394 + v398.toNat) < m399 then
        G_g89 (List.getD a400 (m394 + v398.toNat) 0)
          (fun b411 =>
            cond b411
             (
              k413 v398)
             (
              r415 (IntKind.wrap .i64 (v398 + (1 : Int)))))
      else
        none
    else
      none)
   (
    k414)
def g91l0 {α : Type} (G_g89 : {α : Type} → Int → (Bool → Option α) → Option α)  (m394 : Nat) (m395 : Nat) (m396 : Nat) (v397 : Int) (m399 : Nat) (a400 : List Int) (k413 : Int → Option α) (k414 : Option α) : Nat → Int → Option α
  | 0 => fun _ => none
  | m + 1 => fun v398 => g91l0b G_g89 m394 m395 m396 v397 m399 a400 k413 k414 (g91l0 G_g89 m394 m395 m396 v397 m399 a400 k413 k414 m) v398
def g91l0M {α : Type} (m : Nat) : Nat → Nat → Nat → Int → Nat → (List Int) → (Int → Option α) → (Option α) → Int → Option α :=
  fun m394 m395 m396 v397 m399 a400 k413 k414 v398 => g91l0 (g89 m) m394 m395 m396 v397 m399 a400 k413 k414 m v398
def g91l0D : LoopD := { n := 19, low := [0], sl := [0, 1, 7, 8], bl := [0], tp := [(.vl (.sv (.slc 0 0 1))), (.vl (.sv (.clo 89 []))), (.vl (.sv (.int .i64))), (.vl (.sv (.int .i64)))], bp := [(false, [(.seqv (.int .i8))])], xs := [(1, [4]), (2, [])] }
def g91l0K {α : Type} (L : Nat → Nat → Nat → Int → Nat → (List Int) → (Int → Option α) → (Option α) → Int → Option α) (ls : List Lf) (k : Ex → St → Option α) : Option α :=
  L (lf ls 0).nat (lf ls 1).nat (lf ls 2).nat (lf ls 3).int (lf ls 5).nat ((lf ls 6).lst (.int .i8))
    (fun y0 => k .ret (mkSt 19 [4] [(.vl (.sv (.int .i64 y0)))] [0] [(false, [(.seq (.int .i8) (lf ls 5).nat ((lf ls 6).lst (.int .i8)))])]))
    (k .normal (mkSt 19 [] [] [0] [(false, [(.seq (.int .i8) (lf ls 5).nat ((lf ls 6).lst (.int .i8)))])]))
    (lf ls 4).int
def g91b {α : Type} (G_g89 : {α : Type} → Int → (Bool → Option α) → Option α) (L_g91l0 : {α : Type} → Nat → Nat → Nat → Int → Nat → (List Int) → (Int → Option α) → (Option α) → Int → Option α) (m389 : Nat) (m390 : Nat) (m391 : Nat) (m392 : Nat) (u393 : List Int) (k417 : Int → Option α) : Option α :=
  L_g91l0 m389 m390 m391 ((m390 : Nat) : Int) m392 u393
    (fun x416 =>
      k417 x416)
    (
      k417 (-1 : Int))
    (0 : Int)
def g91 {α : Type} (m : Nat) : Nat → Nat → Nat → Nat → (List Int) → (Int → Option α) → Option α :=
  g91b (g89 m) (g91l0M m)
def g91tp : List TP := [(.vl (.sv (.slc 0 0 1))), (.vl (.sv (.clo 89 [])))]
def g91bp : List BP := [(false, [(.seqv (.int .i8))])]
def g91K {α : Type} (G : Nat → Nat → Nat → Nat → (List Int) → (Int → Option α) → Option α) (ls : List Lf) (k : TV → List (List Seg) → List (List Seg) → Option α) : Option α :=
  G (lf ls 0).nat (lf ls 1).nat (lf ls 2).nat (lf ls 3).nat ((lf ls 4).lst (.int .i8))
    (fun y0 => k (.vl (.sv (.int .i64 y0))) [[(.seq (.int .i8) (lf ls 3).nat ((lf ls 4).lst (.int .i8)))]] [])
def g91hd (G_g89 : {α : Type} → Int → (Bool → Option α) → Option α) (L_g91l0 : {α : Type} → Nat → Nat → Nat → Int → Nat → (List Int) → (Int → Option α) → (Option α) → Int → Option α) : Hd where
  call := fun f args Bs k => cond (Nat.beq f 89) (rowK g89tp g89bp (g89K G_g89) args Bs k) (none)
  loop := fun id st k => cond (Nat.beq id 0) (loopH g91l0D (g91l0K L_g91l0) st k) (none)
  ro := fun f => []
def g91h (m : Nat) : Hd := g91hd (g89 m) (g91l0M m)
theorem g91l0Step (G_g89 : {α : Type} → Int → (Bool → Option α) → Option α) (L_g91l0 : {α : Type} → Nat → Nat → Nat → Int → Nat → (List Int) → (Int → Option α) → (Option α) → Int → Option α) {α : Type} (L : Nat → Nat → Nat → Int → Nat → (List Int) → (Int → Option α) → (Option α) → Int → Option α) (ls : List Lf) (k : Ex → St → Option α) :
    g91l0K (fun m394 m395 m396 v397 m399 a400 k413 k414 v398 => g91l0b G_g89 m394 m395 m396 v397 m399 a400 k413 k414 (L m394 m395 m396 v397 m399 a400 k413 k414) v398) ls k = ev tab (g91hd G_g89 L_g91l0) (bodyAt Go.Proofs.Try.f91 0) (atHead g91l0D ls) (loopK g91l0D 0 (loopH g91l0D (g91l0K L)) k) := by kernel_rfl
theorem g91Main (G_g89 : {α : Type} → Int → (Bool → Option α) → Option α) (L_g91l0 : {α : Type} → Nat → Nat → Nat → Int → Nat → (List Int) → (Int → Option α) → (Option α) → Int → Option α) {α : Type} (ls : List Lf) (k : TV → List (List Seg) → List (List Seg) → Option α) :
    g91K (g91b G_g89 L_g91l0) ls k = evFun tab (g91hd G_g89 L_g91l0) Go.Proofs.Try.f91 (fillT g91tp ls).1 (fillB g91bp (fillT g91tp ls).2).1 k := by kernel_rfl
theorem g91Calls (m : Nat) : (g91h m).CallsOk Go.Proofs.Try.prog := (cok_cons (g89Ok m) cok_nil)
theorem g91l0Ok (m : Nat) (α : Type) (st : St) (k : Ex → St → Option α) (r : α) (h : (g91h m).loop 0 st k = some r) :
    ∃ e st', k e st' = some r ∧ CodeS Go.Proofs.Try.prog (.block 0 (.loop (bodyAt Go.Proofs.Try.f91 0))) st e st' :=
  loop_ok (tab := tab) (h := g91h m) (F := fun n ls k => g91l0K (fun m394 m395 m396 v397 m399 a400 k413 k414 v398 => g91l0 (g89 m) m394 m395 m396 v397 m399 a400 k413 k414 n v398) ls k) tabOk (g91Calls m) mixed (loopsOk_of _ (fun p hp => by rw [show loopsOf (bodyAt Go.Proofs.Try.f91 0) = [] by kernel_rfl] at hp; cases hp))
    (fun _ _ => rfl) (fun n ls k => g91l0Step (g89 m) (g91l0M m) (fun m394 m395 m396 v397 m399 a400 k413 k414 => g91l0 (g89 m) m394 m395 m396 v397 m399 a400 k413 k414 n) ls k) (n := m) h
theorem g91Fn (m : Nat) : FnOk Go.Proofs.Try.prog 91 g91tp g91bp (fun {α} => g91K (g91 (α := α) m)) :=
  fn_ok (tab := tab) (h := g91h m) (fn := Go.Proofs.Try.f91) (F := fun {α} => g91K (g91 (α := α) m)) tabOk (g91Calls m) mixed (by kernel_rfl) (by kernel_rfl) (fun c hc => by
    rw [bodyOf_some hc]
    exact loopsOk_of _ (fun p hp => by
    rw [show loopsOf (bodyOf Go.Proofs.Try.f91) = [(0, bodyAt Go.Proofs.Try.f91 0)] by kernel_rfl] at hp
    simp only [List.mem_cons, List.not_mem_nil, or_false] at hp
    rcases hp with rfl
    exact g91l0Ok m))
    (fun α ls k => g91Main (g89 m) (g91l0M m) ls k)
theorem g91Ok (m : Nat) : RowOk Go.Proofs.Try.prog 91 (fun {α} => rowK g91tp g91bp (g91K (g91 (α := α) m))) := row_of (g91Fn m)

/-! ### g88: slices.ContainsFunc[[]int8,int8] -/
def g88b {α : Type} (G_g91 : {α : Type} → Nat → Nat → Nat → Nat → (List Int) → (Int → Option α) → Option α)  (m384 : Nat) (m385 : Nat) (m386 : Nat) (m387 : Nat) (u388 : List Int) (k420 : Bool → Option α) : Option α :=
  G_g91 m384 m385 m386 m387 u388
    (fun x418 =>
      k420 (decide (x418 ≥ (0 : Int))))
def g88 {α : Type} (m : Nat) : Nat → Nat → Nat → Nat → (List Int) → (Bool → Option α) → Option α :=
  g88b (g91 m)
def g88tp : List TP := [(.vl (.sv (.slc 0 0 1))), (.vl (.sv (.clo 89 [])))]
def g88bp : List BP := [(false, [(.seqv (.int .i8))])]
def g88K {α : Type} (G : Nat → Nat → Nat → Nat → (List Int) → (Bool → Option α) → Option α) (ls : List Lf) (k : TV → List (List Seg) → List (List Seg) → Option α) : Option α :=
  G (lf ls 0).nat (lf ls 1).nat (lf ls 2).nat (lf ls 3).nat ((lf ls 4).lst (.int .i8))
    (fun y0 => k (.vl (.sv (.bool y0))) [[(.seq (.int .i8) (lf ls 3).nat ((lf ls 4).lst (.int .i8)))]] [])
def g88hd (G_g91 : {α : Type} → Nat → Nat → Nat → Nat → (List Int) → (Int → Option α) → Option α)  : Hd where
  call := fun f args Bs k => cond (Nat.beq f 91) (rowK g91tp g91bp (g91K G_g91) args Bs k) (none)
  loop := fun id st k => none
  ro := fun f => cond (Nat.beq f 91) [0] ([])
def g88h (m : Nat) : Hd := g88hd (g91 m)
theorem g88Main (G_g91 : {α : Type} → Nat → Nat → Nat → Nat → (List Int) → (Int → Option α) → Option α)  {α : Type} (ls : List Lf) (k : TV → List (List Seg) → List (List Seg) → Option α) :
    g88K (g88b G_g91) ls k = evFun tab (g88hd G_g91) Go.Proofs.Try.f88 (fillT g88tp ls).1 (fillB g88bp (fillT g88tp ls).2).1 k := by kernel_rfl
theorem g88Calls (m : Nat) : (g88h m).CallsOk Go.Proofs.Try.prog := (cok_cons (g91Ok m) cok_nil)
theorem g88Fn (m : Nat) : FnOk Go.Proofs.Try.prog 88 g88tp g88bp (fun {α} => g88K (g88 (α := α) m)) :=
  fn_ok (tab := tab) (h := g88h m) (fn := Go.Proofs.Try.f88) (F := fun {α} => g88K (g88 (α := α) m)) tabOk (g88Calls m) mixed (by kernel_rfl) (by kernel_rfl) (fun c hc => by
    rw [bodyOf_some hc]
    exact loopsOk_of _ (fun p hp => by rw [show loopsOf (bodyOf Go.Proofs.Try.f88) = [] by kernel_rfl] at hp; cases hp))
    (fun α ls k => g88Main (g91 m) ls k)
theorem g88Ok (m : Nat) : RowOk Go.Proofs.Try.prog 88 (fun {α} => rowK g88tp g88bp (g88K (g88 (α := α) m))) := row_of (g88Fn m)

/-! ### g77: impl.digitsOk -/
def g77b {α : Type} (G_g88 : {α : Type} → Nat → Nat → Nat → Nat → (List Int) → (Bool → Option α) → Option α)  (m379 : Nat) (m380 : Nat) (m381 : Nat) (m382 : Nat) (u383 : List Int) (k423 : Bool → Option α) : Option α :=
  G_g88 m379 m380 m381 m382 u383
    (fun b421 =>
      k423 (!b421))
def g77 {α : Type} (m : Nat) : Nat → Nat → Nat → Nat → (List Int) → (Bool → Option α) → Option α :=
  g77b (g88 m)
def g77tp : List TP := [(.vl (.sv (.slc 0 0 1)))]
def g77bp : List BP := [(false, [(.seqv (.int .i8))])]
def g77K {α : Type} (G : Nat → Nat → Nat → Nat → (List Int) → (Bool → Option α) → Option α) (ls : List Lf) (k : TV → List (List Seg) → List (List Seg) → Option α) : Option α :=
  G (lf ls 0).nat (lf ls 1).nat (lf ls 2).nat (lf ls 3).nat ((lf ls 4).lst (.int .i8))
    (fun y0 => k (.vl (.sv (.bool y0))) [[(.seq (.int .i8) (lf ls 3).nat ((lf ls 4).lst (.int .i8)))]] [])
def g77hd (G_g88 : {α : Type} → Nat → Nat → Nat → Nat → (List Int) → (Bool → Option α) → Option α)  : Hd where
  call := fun f args Bs k => cond (Nat.beq f 88) (rowK g88tp g88bp (g88K G_g88) args Bs k) (none)
  loop := fun id st k => none
  ro := fun f => cond (Nat.beq f 88) [0] ([])
def g77h (m : Nat) : Hd := g77hd (g88 m)
theorem g77Main (G_g88 : {α : Type} → Nat → Nat → Nat → Nat → (List Int) → (Bool → Option α) → Option α)  {α : Type} (ls : List Lf) (k : TV → List (List Seg) → List (List Seg) → Option α) :
    g77K (g77b G_g88) ls k = evFun tab (g77hd G_g88) Go.Proofs.Try.f77 (fillT g77tp ls).1 (fillB g77bp (fillT g77tp ls).2).1 k := by kernel_rfl
theorem g77Calls (m : Nat) : (g77h m).CallsOk Go.Proofs.Try.prog := (cok_cons (g88Ok m) cok_nil)
theorem g77Fn (m : Nat) : FnOk Go.Proofs.Try.prog 77 g77tp g77bp (fun {α} => g77K (g77 (α := α) m)) :=
  fn_ok (tab := tab) (h := g77h m) (fn := Go.Proofs.Try.f77) (F := fun {α} => g77K (g77 (α := α) m)) tabOk (g77Calls m) mixed (by kernel_rfl) (by kernel_rfl) (fun c hc => by
    rw [bodyOf_some hc]
    exact loopsOk_of _ (fun p hp => by rw [show loopsOf (bodyOf Go.Proofs.Try.f77) = [] by kernel_rfl] at hp; cases hp))
    (fun α ls k => g77Main (g88 m) ls k)
theorem g77Ok (m : Nat) : RowOk Go.Proofs.Try.prog 77 (fun {α} => rowK g77tp g77bp (g77K (g77 (α := α) m))) := row_of (g77Fn m)

/-! ### g41: impl.ValidStream -/
def g41b {α : Type} (G_g77 : {α : Type} → Nat → Nat → Nat → Nat → (List Int) → (Bool → Option α) → Option α)  (m366 : Nat) (m367 : Nat) (m368 : Nat) (m369 : Nat) (m370 : Nat) (m371 : Nat) (m372 : Nat) (u373 : List Int) (m374 : Nat) (u375 : List Int) (k426 : Bool → Option α) : Option α :=
  cond (decide (((m367 : Nat) : Int) ≤ (16 : Int)))
   (
    cond (decide (((m370 : Nat) : Int) ≥ (1 : Int)))
     (
      cond (decide (((m370 : Nat) : Int) ≤ (14 : Int)))
       (
        G_g77 m366 m367 m368 m372 u373
          (fun b424 =>
            cond b424
             (
              G_g77 m369 m370 m371 m374 u375
                (fun b425 =>
                  k426 b425))
             (
              k426 false)))
       (
        k426 false))
     (
      k426 false))
   (
    k426 false)
def g41 {α : Type} (m : Nat) : Nat → Nat → Nat → Nat → Nat → Nat → Nat → (List Int) → Nat → (List Int) → (Bool → Option α) → Option α :=
  g41b (g77 m)
def g41tp : List TP := [(.vl (.agg [(.one (.slc 0 0 1)), (.one (.slc 1 0 1))]))]
def g41bp : List BP := [(false, [(.seqv (.int .i8))]), (false, [(.seqv (.int .i8))])]
def g41K {α : Type} (G : Nat → Nat → Nat → Nat → Nat → Nat → Nat → (List Int) → Nat → (List Int) → (Bool → Option α) → Option α) (ls : List Lf) (k : TV → List (List Seg) → List (List Seg) → Option α) : Option α :=
  G (lf ls 0).nat (lf ls 1).nat (lf ls 2).nat (lf ls 3).nat (lf ls 4).nat (lf ls 5).nat (lf ls 6).nat ((lf ls 7).lst (.int .i8)) (lf ls 8).nat ((lf ls 9).lst (.int .i8))
    (fun y0 => k (.vl (.sv (.bool y0))) [[(.seq (.int .i8) (lf ls 6).nat ((lf ls 7).lst (.int .i8)))], [(.seq (.int .i8) (lf ls 8).nat ((lf ls 9).lst (.int .i8)))]] [])
def g41hd (G_g77 : {α : Type} → Nat → Nat → Nat → Nat → (List Int) → (Bool → Option α) → Option α)  : Hd where
  call := fun f args Bs k => cond (Nat.beq f 77) (rowK g77tp g77bp (g77K G_g77) args Bs k) (none)
  loop := fun id st k => none
  ro := fun f => cond (Nat.beq f 77) [0] ([])
def g41h (m : Nat) : Hd := g41hd (g77 m)
theorem g41Main (G_g77 : {α : Type} → Nat → Nat → Nat → Nat → (List Int) → (Bool → Option α) → Option α)  {α : Type} (ls : List Lf) (k : TV → List (List Seg) → List (List Seg) → Option α) :
    g41K (g41b G_g77) ls k = evFun tab (g41hd G_g77) Go.Proofs.Try.f41 (fillT g41tp ls).1 (fillB g41bp (fillT g41tp ls).2).1 k := by kernel_rfl
theorem g41Calls (m : Nat) : (g41h m).CallsOk Go.Proofs.Try.prog := (cok_cons (g77Ok m) cok_nil)
theorem g41Fn (m : Nat) : FnOk Go.Proofs.Try.prog 41 g41tp g41bp (fun {α} => g41K (g41 (α := α) m)) :=
  fn_ok (tab := tab) (h := g41h m) (fn := Go.Proofs.Try.f41) (F := fun {α} => g41K (g41 (α := α) m)) tabOk (g41Calls m) mixed (by kernel_rfl) (by kernel_rfl) (fun c hc => by
    rw [bodyOf_some hc]
    exact loopsOk_of _ (fun p hp => by rw [show loopsOf (bodyOf Go.Proofs.Try.f41) = [] by kernel_rfl] at hp; cases hp))
    (fun α ls k => g41Main (g77 m) ls k)
theorem g41Ok (m : Nat) : RowOk Go.Proofs.Try.prog 41 (fun {α} => rowK g41tp g41bp (g41K (g41 (α := α) m))) := row_of (g41Fn m)

/-! ### g11: laws.FnExactValidStream -/
def g11b {α : Type} (G_g35 : {α : Type} → Nat → Nat → Nat → Nat → Nat → Nat → Int → Nat → (List Int) → Nat → (List Int) → (Int → Option α) → Option α) (G_g37 : {α : Type} → Nat → Nat → Nat → Nat → Nat → Nat → Nat → (List Int) → Nat → (List Int) → ((List Int) → (List Int) → Option α) → Option α) (G_g40 : {α : Type} → Nat → Nat → Nat → Nat → Nat → Nat → Nat → (List Int) → Nat → (List Int) → (Bool → Option α) → Option α) (G_g41 : {α : Type} → Nat → Nat → Nat → Nat → Nat → Nat → Nat → (List Int) → Nat → (List Int) → (Bool → Option α) → Option α) (G_g39 : {α : Type} → Nat → Nat → Nat → Nat → Nat → Nat → Nat → Nat → Nat → Nat → Nat → Nat → Nat → (List Int) → Nat → (List Int) → Nat → (List Int) → Nat → (List Int) → (Bool → Option α) → Option α)  (m295 : Nat) (m296 : Nat) (m297 : Nat) (m298 : Nat) (m299 : Nat) (m300 : Nat) (m301 : Nat) (u302 : List Int) (m303 : Nat) (u304 : List Int) (k433 : Bool → Option α) : Option α :=
  G_g35 m295 m296 m297 m298 m299 m300 (1048576 : Int) m301 u302 m303 u304
    (fun x305 =>
      cond (decide (x305 < (0 : Int)))
       (
        k433 true)
       (
        G_g37 m295 m296 m297 m298 m299 m300 m301 u302 m303 u304
          (fun l307 l308 =>
            G_g40 0 m296 m296 0 m299 m299 m296 l307 m299 l308
              (fun b363 =>
                G_g37 m295 m296 m297 m298 m299 m300 m301 u302 m303 u304
                  (fun l364 l365 =>
                    G_g41 0 m296 m296 0 m299 m299 m296 l364 m299 l365
                      (fun b427 =>
                        cond (!(b427 == b363))
                         (
                          k433 false)
                         (
                          G_g37 m295 m296 m297 m298 m299 m300 m301 u302 m303 u304
                            (fun l429 l430 =>
                              G_g39 0 m296 m296 0 m299 m299 0 m296 m296 0 m299 m299 m296 l364 m299 l365 m296 l429 m299 l430
                                (fun b431 =>
                                  cond (!b431)
                                   (
                                    k433 false)
                                   (
                                    k433 true))))))))))
def g11 {α : Type} (m : Nat) : Nat → Nat → Nat → Nat → Nat → Nat → Nat → (List Int) → Nat → (List Int) → (Bool → Option α) → Option α :=
  g11b (g35 m) (g37 m) (g40 m) (g41 m) (g39 m)
def g11tp : List TP := [(.vl (.agg [(.one (.sla 0 0 1)), (.one (.sla 1 0 1))]))]
def g11bp : List BP := [(false, [(.seqv (.int .i8))]), (false, [(.seqv (.int .i8))])]
def g11K {α : Type} (G : Nat → Nat → Nat → Nat → Nat → Nat → Nat → (List Int) → Nat → (List Int) → (Bool → Option α) → Option α) (ls : List Lf) (k : TV → List (List Seg) → List (List Seg) → Option α) : Option α :=
  G (lf ls 0).nat (lf ls 1).nat (lf ls 2).nat (lf ls 3).nat (lf ls 4).nat (lf ls 5).nat (lf ls 6).nat ((lf ls 7).lst (.int .i8)) (lf ls 8).nat ((lf ls 9).lst (.int .i8))
    (fun y0 => k (.vl (.sv (.bool y0))) [[(.seq (.int .i8) (lf ls 6).nat ((lf ls 7).lst (.int .i8)))], [(.seq (.int .i8) (lf ls 8).nat ((lf ls 9).lst (.int .i8)))]] [])
def g11hd (G_g35 : {α : Type} → Nat → Nat → Nat → Nat → Nat → Nat → Int → Nat → (List Int) → Nat → (List Int) → (Int → Option α) → Option α) (G_g37 : {α : Type} → Nat → Nat → Nat → Nat → Nat → Nat → Nat → (List Int) → Nat → (List Int) → ((List Int) → (List Int) → Option α) → Option α) (G_g40 : {α : Type} → Nat → Nat → Nat → Nat → Nat → Nat → Nat → (List Int) → Nat → (List Int) → (Bool → Option α) → Option α) (G_g41 : {α : Type} → Nat → Nat → Nat → Nat → Nat → Nat → Nat → (List Int) → Nat → (List Int) → (Bool → Option α) → Option α) (G_g39 : {α : Type} → Nat → Nat → Nat → Nat → Nat → Nat → Nat → Nat → Nat → Nat → Nat → Nat → Nat → (List Int) → Nat → (List Int) → Nat → (List Int) → Nat → (List Int) → (Bool → Option α) → Option α)  : Hd where
  call := fun f args Bs k => cond (Nat.beq f 35) (rowK g35tp g35bp (g35K G_g35) args Bs k) (cond (Nat.beq f 37) (rowK g37tp g37bp (g37K G_g37) args Bs k) (cond (Nat.beq f 40) (rowK g40tp g40bp (g40K G_g40) args Bs k) (cond (Nat.beq f 41) (rowK g41tp g41bp (g41K G_g41) args Bs k) (cond (Nat.beq f 39) (rowK g39tp g39bp (g39K G_g39) args Bs k) (none)))))
  loop := fun id st k => none
  ro := fun f => cond (Nat.beq f 35) [0, 1] (cond (Nat.beq f 37) [0, 1] (cond (Nat.beq f 39) [0, 1, 2, 3] (cond (Nat.beq f 40) [0, 1] (cond (Nat.beq f 41) [0, 1] ([])))))
def g11h (m : Nat) : Hd := g11hd (g35 m) (g37 m) (g40 m) (g41 m) (g39 m)
theorem g11Main (G_g35 : {α : Type} → Nat → Nat → Nat → Nat → Nat → Nat → Int → Nat → (List Int) → Nat → (List Int) → (Int → Option α) → Option α) (G_g37 : {α : Type} → Nat → Nat → Nat → Nat → Nat → Nat → Nat → (List Int) → Nat → (List Int) → ((List Int) → (List Int) → Option α) → Option α) (G_g40 : {α : Type} → Nat → Nat → Nat → Nat → Nat → Nat → Nat → (List Int) → Nat → (List Int) → (Bool → Option α) → Option α) (G_g41 : {α : Type} → Nat → Nat → Nat → Nat → Nat → Nat → Nat → (List Int) → Nat → (List Int) → (Bool → Option α) → Option α) (G_g39 : {α : Type} → Nat → Nat → Nat → Nat → Nat → Nat → Nat → Nat → Nat → Nat → Nat → Nat → Nat → (List Int) → Nat → (List Int) → Nat → (List Int) → Nat → (List Int) → (Bool → Option α) → Option α)  {α : Type} (ls : List Lf) (k : TV → List (List Seg) → List (List Seg) → Option α) :
    g11K (g11b G_g35 G_g37 G_g40 G_g41 G_g39) ls k = evFun tab (g11hd G_g35 G_g37 G_g40 G_g41 G_g39) Go.Proofs.Try.f11 (fillT g11tp ls).1 (fillB g11bp (fillT g11tp ls).2).1 k := by kernel_rfl
theorem g11Calls (m : Nat) : (g11h m).CallsOk Go.Proofs.Try.prog := (cok_cons (g35Ok m) (cok_cons (g37Ok m) (cok_cons (g40Ok m) (cok_cons (g41Ok m) (cok_cons (g39Ok m) cok_nil)))))
theorem g11Fn (m : Nat) : FnOk Go.Proofs.Try.prog 11 g11tp g11bp (fun {α} => g11K (g11 (α := α) m)) :=
  fn_ok (tab := tab) (h := g11h m) (fn := Go.Proofs.Try.f11) (F := fun {α} => g11K (g11 (α := α) m)) tabOk (g11Calls m) mixed (by kernel_rfl) (by kernel_rfl) (fun c hc => by
    rw [bodyOf_some hc]
    exact loopsOk_of _ (fun p hp => by rw [show loopsOf (bodyOf Go.Proofs.Try.f11) = [] by kernel_rfl] at hp; cases hp))
    (fun α ls k => g11Main (g35 m) (g37 m) (g40 m) (g41 m) (g39 m) ls k)
theorem g11Ok (m : Nat) : RowOk Go.Proofs.Try.prog 11 (fun {α} => rowK g11tp g11bp (g11K (g11 (α := α) m))) := row_of (g11Fn m)

/-! ### g78: spec.l03Shown -/
def g78l0b {α : Type}   (m465 : Nat) (m466 : Nat) (m467 : Nat) (m469 : Nat) (a470 : List Int) (k478 : (List Int) → Option α) (r479 : Int → (List Int) → Option α) (v468 : Int) (a471 : List Int) : Option α :=
  cond (decide (v468 < ((m466 : Nat) : Int)))
   (
    if 0 ≤ v468 ∧ v468 < (m466 : Nat) then
      if (m465 + v468.toNat) < m469 then
        let x474 : Int := IntKind.wrap .i8 ((List.getD a470 (m465 + v468.toNat) 0) + (1 : Int))
        if 0 ≤ x474 ∧ x474 < (⟨#[45, 48, 43]⟩ : ByteArray).size then
          if a471.length + 1 ≤ 67108864 then
            r479 (IntKind.wrap .i64 (v468 + (1 : Int))) (a471 ++ [(byteAt (⟨#[45, 48, 43]⟩ : ByteArray) x474.toNat)])
          else
            none
        else
          none
      else
        none
    else
      none)
   (
    k478 a471)
def g78l0 {α : Type}   (m465 : Nat) (m466 : Nat) (m467 : Nat) (m469 : Nat) (a470 : List Int) (k478 : (List Int) → Option α) : Nat → Int → (List Int) → Option α
  | 0 => fun _ _ => none
  | m + 1 => fun v468 a471 => g78l0b m465 m466 m467 m469 a470 k478 (g78l0 m465 m466 m467 m469 a470 k478 m) v468 a471
def g78l0M {α : Type} (m : Nat) : Nat → Nat → Nat → Nat → (List Int) → ((List Int) → Option α) → Int → (List Int) → Option α :=
  fun m465 m466 m467 m469 a470 k478 v468 a471 => g78l0 m465 m466 m467 m469 a470 k478 m v468 a471
def g78l0D : LoopD := { n := 23, low := [0], sl := [0, 3, 4], bl := [0, 1000001], tp := [(.vl (.sv (.slc 0 0 1))), (.vl (.sv (.gsl 1000001 1))), (.vl (.sv (.int .i64)))], bp := [(false, [(.seqv (.int .i8))]), (true, [(.gro (.int .u8))])], xs := [(2, [3])] }
def g78l0K {α : Type} (L : Nat → Nat → Nat → Nat → (List Int) → ((List Int) → Option α) → Int → (List Int) → Option α) (ls : List Lf) (k : Ex → St → Option α) : Option α :=
  L (lf ls 0).nat (lf ls 1).nat (lf ls 2).nat (lf ls 4).nat ((lf ls 5).lst (.int .i8))
    (fun y2 => k .normal (mkSt 23 [3] [(.vl (.sv (.gsl 1000001 1)))] [0, 1000001] [(false, [(.seq (.int .i8) (lf ls 4).nat ((lf ls 5).lst (.int .i8)))]), (true, [(.gro (.int .u8) y2)])]))
    (lf ls 3).int ((lf ls 6).lst (.int .u8))
def g78b {α : Type}  (L_g78l0 : {α : Type} → Nat → Nat → Nat → Nat → (List Int) → ((List Int) → Option α) → Int → (List Int) → Option α) (m460 : Nat) (m461 : Nat) (m462 : Nat) (m463 : Nat) (u464 : List Int) (k482 : ByteArray → Option α) : Option α :=
  L_g78l0 m460 m461 m462 m463 u464
    (fun l480 =>
      k482 (bytesS l480))
    (0 : Int) []
def g78 {α : Type} (m : Nat) : Nat → Nat → Nat → Nat → (List Int) → (ByteArray → Option α) → Option α :=
  g78b (g78l0M m)
def g78tp : List TP := [(.vl (.sv (.slc 0 0 1)))]
def g78bp : List BP := [(false, [(.seqv (.int .i8))])]
def g78K {α : Type} (G : Nat → Nat → Nat → Nat → (List Int) → (ByteArray → Option α) → Option α) (ls : List Lf) (k : TV → List (List Seg) → List (List Seg) → Option α) : Option α :=
  G (lf ls 0).nat (lf ls 1).nat (lf ls 2).nat (lf ls 3).nat ((lf ls 4).lst (.int .i8))
    (fun y0 => k (.vl (.sv (.str y0))) [[(.seq (.int .i8) (lf ls 3).nat ((lf ls 4).lst (.int .i8)))]] [])
def g78hd  (L_g78l0 : {α : Type} → Nat → Nat → Nat → Nat → (List Int) → ((List Int) → Option α) → Int → (List Int) → Option α) : Hd where
  call := fun f args Bs k => none
  loop := fun id st k => cond (Nat.beq id 0) (loopH g78l0D (g78l0K L_g78l0) st k) (none)
  ro := fun f => []
def g78h (m : Nat) : Hd := g78hd (g78l0M m)
theorem g78l0Step  (L_g78l0 : {α : Type} → Nat → Nat → Nat → Nat → (List Int) → ((List Int) → Option α) → Int → (List Int) → Option α) {α : Type} (L : Nat → Nat → Nat → Nat → (List Int) → ((List Int) → Option α) → Int → (List Int) → Option α) (ls : List Lf) (k : Ex → St → Option α) :
    g78l0K (fun m465 m466 m467 m469 a470 k478 v468 a471 => g78l0b m465 m466 m467 m469 a470 k478 (L m465 m466 m467 m469 a470 k478) v468 a471) ls k = ev tab (g78hd L_g78l0) (bodyAt Go.Proofs.Try.f78 0) (atHead g78l0D ls) (loopK g78l0D 0 (loopH g78l0D (g78l0K L)) k) := by kernel_rfl
theorem g78Main  (L_g78l0 : {α : Type} → Nat → Nat → Nat → Nat → (List Int) → ((List Int) → Option α) → Int → (List Int) → Option α) {α : Type} (ls : List Lf) (k : TV → List (List Seg) → List (List Seg) → Option α) :
    g78K (g78b L_g78l0) ls k = evFun tab (g78hd L_g78l0) Go.Proofs.Try.f78 (fillT g78tp ls).1 (fillB g78bp (fillT g78tp ls).2).1 k := by kernel_rfl
theorem g78Calls (m : Nat) : (g78h m).CallsOk Go.Proofs.Try.prog := cok_nil
theorem g78l0Ok (m : Nat) (α : Type) (st : St) (k : Ex → St → Option α) (r : α) (h : (g78h m).loop 0 st k = some r) :
    ∃ e st', k e st' = some r ∧ CodeS Go.Proofs.Try.prog (.block 0 (.loop (bodyAt Go.Proofs.Try.f78 0))) st e st' :=
  loop_ok (tab := tab) (h := g78h m) (F := fun n ls k => g78l0K (fun m465 m466 m467 m469 a470 k478 v468 a471 => g78l0 m465 m466 m467 m469 a470 k478 n v468 a471) ls k) tabOk (g78Calls m) mixed (loopsOk_of _ (fun p hp => by rw [show loopsOf (bodyAt Go.Proofs.Try.f78 0) = [] by kernel_rfl] at hp; cases hp))
    (fun _ _ => rfl) (fun n ls k => g78l0Step (g78l0M m) (fun m465 m466 m467 m469 a470 k478 => g78l0 m465 m466 m467 m469 a470 k478 n) ls k) (n := m) h
theorem g78Fn (m : Nat) : FnOk Go.Proofs.Try.prog 78 g78tp g78bp (fun {α} => g78K (g78 (α := α) m)) :=
  fn_ok (tab := tab) (h := g78h m) (fn := Go.Proofs.Try.f78) (F := fun {α} => g78K (g78 (α := α) m)) tabOk (g78Calls m) mixed (by kernel_rfl) (by kernel_rfl) (fun c hc => by
    rw [bodyOf_some hc]
    exact loopsOk_of _ (fun p hp => by
    rw [show loopsOf (bodyOf Go.Proofs.Try.f78) = [(0, bodyAt Go.Proofs.Try.f78 0)] by kernel_rfl] at hp
    simp only [List.mem_cons, List.not_mem_nil, or_false] at hp
    rcases hp with rfl
    exact g78l0Ok m))
    (fun α ls k => g78Main (g78l0M m) ls k)
theorem g78Ok (m : Nat) : RowOk Go.Proofs.Try.prog 78 (fun {α} => rowK g78tp g78bp (g78K (g78 (α := α) m))) := row_of (g78Fn m)

/-! ### g42: spec.StreamText -/
def g42b {α : Type} (G_g76 : {α : Type} → Nat → Nat → Nat → Nat → Nat → Nat → Nat → (List Int) → Nat → (List Int) → (Bool → Option α) → Option α) (G_g78 : {α : Type} → Nat → Nat → Nat → Nat → (List Int) → (ByteArray → Option α) → Option α)  (m448 : Nat) (m449 : Nat) (m450 : Nat) (m451 : Nat) (m452 : Nat) (m453 : Nat) (m454 : Nat) (u455 : List Int) (m456 : Nat) (u457 : List Int) (k487 : ByteArray → Option α) : Option α :=
  G_g76 m448 m449 m450 m451 m452 m453 m454 u455 m456 u457
    (fun b458 =>
      cond (!b458)
       (
        k487 (⟨#[]⟩ : ByteArray))
       (
        G_g78 m448 m449 m450 m454 u455
          (fun s483 =>
            if s483.size + (⟨#[58]⟩ : ByteArray).size ≤ 9223372036854775807 then
              let s484 : ByteArray := s483 ++ (⟨#[58]⟩ : ByteArray)
              G_g78 m451 m452 m453 m456 u457
                (fun s485 =>
                  if s484.size + s485.size ≤ 9223372036854775807 then
                    k487 (s484 ++ s485)
                  else
                    none)
            else
              none)))
def g42 {α : Type} (m : Nat) : Nat → Nat → Nat → Nat → Nat → Nat → Nat → (List Int) → Nat → (List Int) → (ByteArray → Option α) → Option α :=
  g42b (g76 m) (g78 m)
def g42tp : List TP := [(.vl (.agg [(.one (.slc 0 0 1)), (.one (.slc 1 0 1))]))]
def g42bp : List BP := [(false, [(.seqv (.int .i8))]), (false, [(.seqv (.int .i8))])]
def g42K {α : Type} (G : Nat → Nat → Nat → Nat → Nat → Nat → Nat → (List Int) → Nat → (List Int) → (ByteArray → Option α) → Option α) (ls : List Lf) (k : TV → List (List Seg) → List (List Seg) → Option α) : Option α :=
  G (lf ls 0).nat (lf ls 1).nat (lf ls 2).nat (lf ls 3).nat (lf ls 4).nat (lf ls 5).nat (lf ls 6).nat ((lf ls 7).lst (.int .i8)) (lf ls 8).nat ((lf ls 9).lst (.int .i8))
    (fun y0 => k (.vl (.sv (.str y0))) [[(.seq (.int .i8) (lf ls 6).nat ((lf ls 7).lst (.int .i8)))], [(.seq (.int .i8) (lf ls 8).nat ((lf ls 9).lst (.int .i8)))]] [])
def g42hd (G_g76 : {α : Type} → Nat → Nat → Nat → Nat → Nat → Nat → Nat → (List Int) → Nat → (List Int) → (Bool → Option α) → Option α) (G_g78 : {α : Type} → Nat → Nat → Nat → Nat → (List Int) → (ByteArray → Option α) → Option α)  : Hd where
  call := fun f args Bs k => cond (Nat.beq f 76) (rowK g76tp g76bp (g76K G_g76) args Bs k) (cond (Nat.beq f 78) (rowK g78tp g78bp (g78K G_g78) args Bs k) (none))
  loop := fun id st k => none
  ro := fun f => cond (Nat.beq f 76) [0, 1, 2] (cond (Nat.beq f 78) [0] ([]))
def g42h (m : Nat) : Hd := g42hd (g76 m) (g78 m)
theorem g42Main (G_g76 : {α : Type} → Nat → Nat → Nat → Nat → Nat → Nat → Nat → (List Int) → Nat → (List Int) → (Bool → Option α) → Option α) (G_g78 : {α : Type} → Nat → Nat → Nat → Nat → (List Int) → (ByteArray → Option α) → Option α)  {α : Type} (ls : List Lf) (k : TV → List (List Seg) → List (List Seg) → Option α) :
    g42K (g42b G_g76 G_g78) ls k = evFun tab (g42hd G_g76 G_g78) Go.Proofs.Try.f42 (fillT g42tp ls).1 (fillB g42bp (fillT g42tp ls).2).1 k := by kernel_rfl
theorem g42Calls (m : Nat) : (g42h m).CallsOk Go.Proofs.Try.prog := (cok_cons (g76Ok m) (cok_cons (g78Ok m) cok_nil))
theorem g42Fn (m : Nat) : FnOk Go.Proofs.Try.prog 42 g42tp g42bp (fun {α} => g42K (g42 (α := α) m)) :=
  fn_ok (tab := tab) (h := g42h m) (fn := Go.Proofs.Try.f42) (F := fun {α} => g42K (g42 (α := α) m)) tabOk (g42Calls m) mixed (by kernel_rfl) (by kernel_rfl) (fun c hc => by
    rw [bodyOf_some hc]
    exact loopsOk_of _ (fun p hp => by rw [show loopsOf (bodyOf Go.Proofs.Try.f42) = [] by kernel_rfl] at hp; cases hp))
    (fun α ls k => g42Main (g76 m) (g78 m) ls k)
theorem g42Ok (m : Nat) : RowOk Go.Proofs.Try.prog 42 (fun {α} => rowK g42tp g42bp (g42K (g42 (α := α) m))) := row_of (g42Fn m)

/-! ### g79: impl.digitText -/
def g79l0b {α : Type}   (m509 : Nat) (m510 : Nat) (m511 : Nat) (m512 : Nat) (m513 : Nat) (m514 : Nat) (v515 : Int) (m517 : Nat) (a518 : List Int) (m519 : Nat) (k527 : (List Int) → Option α) (r528 : Int → (List Int) → Option α) (v516 : Int) (a520 : List Int) : Option α :=
  cond (decide (v516 < v515))
   (
    if 0 ≤ v516 ∧ v516 < (m513 : Nat) then
      if (m512 + v516.toNat) < m517 then
        let x523 : Int := IntKind.wrap .i8 ((List.getD a518 (m512 + v516.toNat) 0) + (1 : Int))
        if 0 ≤ x523 ∧ x523 < (⟨#[45, 48, 43]⟩ : ByteArray).size then
          if 0 ≤ v516 ∧ v516 < (m510 : Nat) then
            if (m509 + v516.toNat) < m519 then
              r528 (IntKind.wrap .i64 (v516 + (1 : Int))) (List.set a520 (m509 + v516.toNat) (byteAt (⟨#[45, 48, 43]⟩ : ByteArray) x523.toNat))
            else
              none
          else
            none
        else
          none
      else
        none
    else
      none)
   (
    k527 a520)
def g79l0 {α : Type}   (m509 : Nat) (m510 : Nat) (m511 : Nat) (m512 : Nat) (m513 : Nat) (m514 : Nat) (v515 : Int) (m517 : Nat) (a518 : List Int) (m519 : Nat) (k527 : (List Int) → Option α) : Nat → Int → (List Int) → Option α
  | 0 => fun _ _ => none
  | m + 1 => fun v516 a520 => g79l0b m509 m510 m511 m512 m513 m514 v515 m517 a518 m519 k527 (g79l0 m509 m510 m511 m512 m513 m514 v515 m517 a518 m519 k527 m) v516 a520
def g79l0M {α : Type} (m : Nat) : Nat → Nat → Nat → Nat → Nat → Nat → Int → Nat → (List Int) → Nat → ((List Int) → Option α) → Int → (List Int) → Option α :=
  fun m509 m510 m511 m512 m513 m514 v515 m517 a518 m519 k527 v516 a520 => g79l0 m509 m510 m511 m512 m513 m514 v515 m517 a518 m519 k527 m v516 a520
def g79l0D : LoopD := { n := 25, low := [0], sl := [3, 9, 10, 11], bl := [0, 1000001], tp := [(.vl (.sv (.slc 1000001 0 1))), (.vl (.sv (.slc 0 0 1))), (.vl (.sv (.int .i64))), (.vl (.sv (.int .i64)))], bp := [(false, [(.seqv (.int .i8))]), (true, [(.seqv (.int .u8))])], xs := [(2, [3])] }
def g79l0K {α : Type} (L : Nat → Nat → Nat → Nat → Nat → Nat → Int → Nat → (List Int) → Nat → ((List Int) → Option α) → Int → (List Int) → Option α) (ls : List Lf) (k : Ex → St → Option α) : Option α :=
  L (lf ls 0).nat (lf ls 1).nat (lf ls 2).nat (lf ls 3).nat (lf ls 4).nat (lf ls 5).nat (lf ls 6).int (lf ls 8).nat ((lf ls 9).lst (.int .i8)) (lf ls 10).nat
    (fun y6 => k .normal (mkSt 25 [3] [(.vl (.sv (.slc 1000001 0 1 (lf ls 0).nat (lf ls 1).nat (lf ls 2).nat)))] [0, 1000001] [(false, [(.seq (.int .i8) (lf ls 8).nat ((lf ls 9).lst (.int .i8)))]), (true, [(.seq (.int .u8) (lf ls 10).nat y6)])]))
    (lf ls 7).int ((lf ls 11).lst (.int .u8))
def g79b {α : Type}  (L_g79l0 : {α : Type} → Nat → Nat → Nat → Nat → Nat → Nat → Int → Nat → (List Int) → Nat → ((List Int) → Option α) → Int → (List Int) → Option α) (m503 : Nat) (m504 : Nat) (m505 : Nat) (m506 : Nat) (u507 : List Int) (k531 : ByteArray → Option α) : Option α :=
  if ((m504 : Nat) : Int) = ((m504 : Nat) : Int) ∧ 0 ≤ ((m504 : Nat) : Int) ∧ ((m504 : Nat) : Int) ≤ 1048576 then
    L_g79l0 0 m504 m504 m503 m504 m505 ((m504 : Nat) : Int) m506 u507 m504
      (fun l529 =>
        if 0 + m504 ≤ m504 then
          k531 (bytesS (List.take m504 (List.drop 0 l529)))
        else
          none)
      (0 : Int) (List.replicate m504 (0 : Int))
  else
    none
def g79 {α : Type} (m : Nat) : Nat → Nat → Nat → Nat → (List Int) → (ByteArray → Option α) → Option α :=
  g79b (g79l0M m)
def g79tp : List TP := [(.vl (.sv (.slc 0 0 1)))]
def g79bp : List BP := [(false, [(.seqv (.int .i8))])]
def g79K {α : Type} (G : Nat → Nat → Nat → Nat → (List Int) → (ByteArray → Option α) → Option α) (ls : List Lf) (k : TV → List (List Seg) → List (List Seg) → Option α) : Option α :=
  G (lf ls 0).nat (lf ls 1).nat (lf ls 2).nat (lf ls 3).nat ((lf ls 4).lst (.int .i8))
    (fun y0 => k (.vl (.sv (.str y0))) [[(.seq (.int .i8) (lf ls 3).nat ((lf ls 4).lst (.int .i8)))]] [])
def g79hd  (L_g79l0 : {α : Type} → Nat → Nat → Nat → Nat → Nat → Nat → Int → Nat → (List Int) → Nat → ((List Int) → Option α) → Int → (List Int) → Option α) : Hd where
  call := fun f args Bs k => none
  loop := fun id st k => cond (Nat.beq id 0) (loopH g79l0D (g79l0K L_g79l0) st k) (none)
  ro := fun f => []
def g79h (m : Nat) : Hd := g79hd (g79l0M m)
theorem g79l0Step  (L_g79l0 : {α : Type} → Nat → Nat → Nat → Nat → Nat → Nat → Int → Nat → (List Int) → Nat → ((List Int) → Option α) → Int → (List Int) → Option α) {α : Type} (L : Nat → Nat → Nat → Nat → Nat → Nat → Int → Nat → (List Int) → Nat → ((List Int) → Option α) → Int → (List Int) → Option α) (ls : List Lf) (k : Ex → St → Option α) :
    g79l0K (fun m509 m510 m511 m512 m513 m514 v515 m517 a518 m519 k527 v516 a520 => g79l0b m509 m510 m511 m512 m513 m514 v515 m517 a518 m519 k527 (L m509 m510 m511 m512 m513 m514 v515 m517 a518 m519 k527) v516 a520) ls k = ev tab (g79hd L_g79l0) (bodyAt Go.Proofs.Try.f79 0) (atHead g79l0D ls) (loopK g79l0D 0 (loopH g79l0D (g79l0K L)) k) := by kernel_rfl
theorem g79Main  (L_g79l0 : {α : Type} → Nat → Nat → Nat → Nat → Nat → Nat → Int → Nat → (List Int) → Nat → ((List Int) → Option α) → Int → (List Int) → Option α) {α : Type} (ls : List Lf) (k : TV → List (List Seg) → List (List Seg) → Option α) :
    g79K (g79b L_g79l0) ls k = evFun tab (g79hd L_g79l0) Go.Proofs.Try.f79 (fillT g79tp ls).1 (fillB g79bp (fillT g79tp ls).2).1 k := by kernel_rfl
theorem g79Calls (m : Nat) : (g79h m).CallsOk Go.Proofs.Try.prog := cok_nil
theorem g79l0Ok (m : Nat) (α : Type) (st : St) (k : Ex → St → Option α) (r : α) (h : (g79h m).loop 0 st k = some r) :
    ∃ e st', k e st' = some r ∧ CodeS Go.Proofs.Try.prog (.block 0 (.loop (bodyAt Go.Proofs.Try.f79 0))) st e st' :=
  loop_ok (tab := tab) (h := g79h m) (F := fun n ls k => g79l0K (fun m509 m510 m511 m512 m513 m514 v515 m517 a518 m519 k527 v516 a520 => g79l0 m509 m510 m511 m512 m513 m514 v515 m517 a518 m519 k527 n v516 a520) ls k) tabOk (g79Calls m) mixed (loopsOk_of _ (fun p hp => by rw [show loopsOf (bodyAt Go.Proofs.Try.f79 0) = [] by kernel_rfl] at hp; cases hp))
    (fun _ _ => rfl) (fun n ls k => g79l0Step (g79l0M m) (fun m509 m510 m511 m512 m513 m514 v515 m517 a518 m519 k527 => g79l0 m509 m510 m511 m512 m513 m514 v515 m517 a518 m519 k527 n) ls k) (n := m) h
theorem g79Fn (m : Nat) : FnOk Go.Proofs.Try.prog 79 g79tp g79bp (fun {α} => g79K (g79 (α := α) m)) :=
  fn_ok (tab := tab) (h := g79h m) (fn := Go.Proofs.Try.f79) (F := fun {α} => g79K (g79 (α := α) m)) tabOk (g79Calls m) mixed (by kernel_rfl) (by kernel_rfl) (fun c hc => by
    rw [bodyOf_some hc]
    exact loopsOk_of _ (fun p hp => by
    rw [show loopsOf (bodyOf Go.Proofs.Try.f79) = [(0, bodyAt Go.Proofs.Try.f79 0)] by kernel_rfl] at hp
    simp only [List.mem_cons, List.not_mem_nil, or_false] at hp
    rcases hp with rfl
    exact g79l0Ok m))
    (fun α ls k => g79Main (g79l0M m) ls k)
theorem g79Ok (m : Nat) : RowOk Go.Proofs.Try.prog 79 (fun {α} => rowK g79tp g79bp (g79K (g79 (α := α) m))) := row_of (g79Fn m)

/-! ### g43: impl.StreamText -/
def g43b {α : Type} (G_g41 : {α : Type} → Nat → Nat → Nat → Nat → Nat → Nat → Nat → (List Int) → Nat → (List Int) → (Bool → Option α) → Option α) (G_g79 : {α : Type} → Nat → Nat → Nat → Nat → (List Int) → (ByteArray → Option α) → Option α)  (m491 : Nat) (m492 : Nat) (m493 : Nat) (m494 : Nat) (m495 : Nat) (m496 : Nat) (m497 : Nat) (u498 : List Int) (m499 : Nat) (u500 : List Int) (k536 : ByteArray → Option α) : Option α :=
  G_g41 m491 m492 m493 m494 m495 m496 m497 u498 m499 u500
    (fun b501 =>
      cond (!b501)
       (
        k536 (⟨#[]⟩ : ByteArray))
       (
        G_g79 m491 m492 m493 m497 u498
          (fun s532 =>
            if s532.size + (⟨#[58]⟩ : ByteArray).size ≤ 9223372036854775807 then
              let s533 : ByteArray := s532 ++ (⟨#[58]⟩ : ByteArray)
              G_g79 m494 m495 m496 m499 u500
                (fun s534 =>
                  if s533.size + s534.size ≤ 9223372036854775807 then
                    k536 (s533 ++ s534)
                  else
                    none)
            else
              none)))
def g43 {α : Type} (m : Nat) : Nat → Nat → Nat → Nat → Nat → Nat → Nat → (List Int) → Nat → (List Int) → (ByteArray → Option α) → Option α :=
  g43b (g41 m) (g79 m)
def g43tp : List TP := [(.vl (.agg [(.one (.slc 0 0 1)), (.one (.slc 1 0 1))]))]
def g43bp : List BP := [(false, [(.seqv (.int .i8))]), (false, [(.seqv (.int .i8))])]
def g43K {α : Type} (G : Nat → Nat → Nat → Nat → Nat → Nat → Nat → (List Int) → Nat → (List Int) → (ByteArray → Option α) → Option α) (ls : List Lf) (k : TV → List (List Seg) → List (List Seg) → Option α) : Option α :=
  G (lf ls 0).nat (lf ls 1).nat (lf ls 2).nat (lf ls 3).nat (lf ls 4).nat (lf ls 5).nat (lf ls 6).nat ((lf ls 7).lst (.int .i8)) (lf ls 8).nat ((lf ls 9).lst (.int .i8))
    (fun y0 => k (.vl (.sv (.str y0))) [[(.seq (.int .i8) (lf ls 6).nat ((lf ls 7).lst (.int .i8)))], [(.seq (.int .i8) (lf ls 8).nat ((lf ls 9).lst (.int .i8)))]] [])
def g43hd (G_g41 : {α : Type} → Nat → Nat → Nat → Nat → Nat → Nat → Nat → (List Int) → Nat → (List Int) → (Bool → Option α) → Option α) (G_g79 : {α : Type} → Nat → Nat → Nat → Nat → (List Int) → (ByteArray → Option α) → Option α)  : Hd where
  call := fun f args Bs k => cond (Nat.beq f 41) (rowK g41tp g41bp (g41K G_g41) args Bs k) (cond (Nat.beq f 79) (rowK g79tp g79bp (g79K G_g79) args Bs k) (none))
  loop := fun id st k => none
  ro := fun f => cond (Nat.beq f 41) [0, 1] (cond (Nat.beq f 79) [0] ([]))
def g43h (m : Nat) : Hd := g43hd (g41 m) (g79 m)
theorem g43Main (G_g41 : {α : Type} → Nat → Nat → Nat → Nat → Nat → Nat → Nat → (List Int) → Nat → (List Int) → (Bool → Option α) → Option α) (G_g79 : {α : Type} → Nat → Nat → Nat → Nat → (List Int) → (ByteArray → Option α) → Option α)  {α : Type} (ls : List Lf) (k : TV → List (List Seg) → List (List Seg) → Option α) :
    g43K (g43b G_g41 G_g79) ls k = evFun tab (g43hd G_g41 G_g79) Go.Proofs.Try.f43 (fillT g43tp ls).1 (fillB g43bp (fillT g43tp ls).2).1 k := by kernel_rfl
theorem g43Calls (m : Nat) : (g43h m).CallsOk Go.Proofs.Try.prog := (cok_cons (g41Ok m) (cok_cons (g79Ok m) cok_nil))
theorem g43Fn (m : Nat) : FnOk Go.Proofs.Try.prog 43 g43tp g43bp (fun {α} => g43K (g43 (α := α) m)) :=
  fn_ok (tab := tab) (h := g43h m) (fn := Go.Proofs.Try.f43) (F := fun {α} => g43K (g43 (α := α) m)) tabOk (g43Calls m) mixed (by kernel_rfl) (by kernel_rfl) (fun c hc => by
    rw [bodyOf_some hc]
    exact loopsOk_of _ (fun p hp => by rw [show loopsOf (bodyOf Go.Proofs.Try.f43) = [] by kernel_rfl] at hp; cases hp))
    (fun α ls k => g43Main (g41 m) (g79 m) ls k)
theorem g43Ok (m : Nat) : RowOk Go.Proofs.Try.prog 43 (fun {α} => rowK g43tp g43bp (g43K (g43 (α := α) m))) := row_of (g43Fn m)

/-! ### g12: laws.FnExactStreamText -/
def g12b {α : Type} (G_g35 : {α : Type} → Nat → Nat → Nat → Nat → Nat → Nat → Int → Nat → (List Int) → Nat → (List Int) → (Int → Option α) → Option α) (G_g37 : {α : Type} → Nat → Nat → Nat → Nat → Nat → Nat → Nat → (List Int) → Nat → (List Int) → ((List Int) → (List Int) → Option α) → Option α) (G_g42 : {α : Type} → Nat → Nat → Nat → Nat → Nat → Nat → Nat → (List Int) → Nat → (List Int) → (ByteArray → Option α) → Option α) (G_g43 : {α : Type} → Nat → Nat → Nat → Nat → Nat → Nat → Nat → (List Int) → Nat → (List Int) → (ByteArray → Option α) → Option α) (G_g39 : {α : Type} → Nat → Nat → Nat → Nat → Nat → Nat → Nat → Nat → Nat → Nat → Nat → Nat → Nat → (List Int) → Nat → (List Int) → Nat → (List Int) → Nat → (List Int) → (Bool → Option α) → Option α)  (m434 : Nat) (m435 : Nat) (m436 : Nat) (m437 : Nat) (m438 : Nat) (m439 : Nat) (m440 : Nat) (u441 : List Int) (m442 : Nat) (u443 : List Int) (k543 : Bool → Option α) : Option α :=
  G_g35 m434 m435 m436 m437 m438 m439 (1048576 : Int) m440 u441 m442 u443
    (fun x444 =>
      cond (decide (x444 < (0 : Int)))
       (
        k543 true)
       (
        G_g37 m434 m435 m436 m437 m438 m439 m440 u441 m442 u443
          (fun l446 l447 =>
            G_g42 0 m435 m435 0 m438 m438 m435 l446 m438 l447
              (fun s488 =>
                G_g37 m434 m435 m436 m437 m438 m439 m440 u441 m442 u443
                  (fun l489 l490 =>
                    G_g43 0 m435 m435 0 m438 m438 m435 l489 m438 l490
                      (fun s537 =>
                        cond (!bytesEq s537 s488)
                         (
                          k543 false)
                         (
                          G_g37 m434 m435 m436 m437 m438 m439 m440 u441 m442 u443
                            (fun l539 l540 =>
                              G_g39 0 m435 m435 0 m438 m438 0 m435 m435 0 m438 m438 m435 l489 m438 l490 m435 l539 m438 l540
                                (fun b541 =>
                                  cond (!b541)
                                   (
                                    k543 false)
                                   (
                                    k543 true))))))))))
def g12 {α : Type} (m : Nat) : Nat → Nat → Nat → Nat → Nat → Nat → Nat → (List Int) → Nat → (List Int) → (Bool → Option α) → Option α :=
  g12b (g35 m) (g37 m) (g42 m) (g43 m) (g39 m)
def g12tp : List TP := [(.vl (.agg [(.one (.sla 0 0 1)), (.one (.sla 1 0 1))]))]
def g12bp : List BP := [(false, [(.seqv (.int .i8))]), (false, [(.seqv (.int .i8))])]
def g12K {α : Type} (G : Nat → Nat → Nat → Nat → Nat → Nat → Nat → (List Int) → Nat → (List Int) → (Bool → Option α) → Option α) (ls : List Lf) (k : TV → List (List Seg) → List (List Seg) → Option α) : Option α :=
  G (lf ls 0).nat (lf ls 1).nat (lf ls 2).nat (lf ls 3).nat (lf ls 4).nat (lf ls 5).nat (lf ls 6).nat ((lf ls 7).lst (.int .i8)) (lf ls 8).nat ((lf ls 9).lst (.int .i8))
    (fun y0 => k (.vl (.sv (.bool y0))) [[(.seq (.int .i8) (lf ls 6).nat ((lf ls 7).lst (.int .i8)))], [(.seq (.int .i8) (lf ls 8).nat ((lf ls 9).lst (.int .i8)))]] [])
def g12hd (G_g35 : {α : Type} → Nat → Nat → Nat → Nat → Nat → Nat → Int → Nat → (List Int) → Nat → (List Int) → (Int → Option α) → Option α) (G_g37 : {α : Type} → Nat → Nat → Nat → Nat → Nat → Nat → Nat → (List Int) → Nat → (List Int) → ((List Int) → (List Int) → Option α) → Option α) (G_g42 : {α : Type} → Nat → Nat → Nat → Nat → Nat → Nat → Nat → (List Int) → Nat → (List Int) → (ByteArray → Option α) → Option α) (G_g43 : {α : Type} → Nat → Nat → Nat → Nat → Nat → Nat → Nat → (List Int) → Nat → (List Int) → (ByteArray → Option α) → Option α) (G_g39 : {α : Type} → Nat → Nat → Nat → Nat → Nat → Nat → Nat → Nat → Nat → Nat → Nat → Nat → Nat → (List Int) → Nat → (List Int) → Nat → (List Int) → Nat → (List Int) → (Bool → Option α) → Option α)  : Hd where
  call := fun f args Bs k => cond (Nat.beq f 35) (rowK g35tp g35bp (g35K G_g35) args Bs k) (cond (Nat.beq f 37) (rowK g37tp g37bp (g37K G_g37) args Bs k) (cond (Nat.beq f 42) (rowK g42tp g42bp (g42K G_g42) args Bs k) (cond (Nat.beq f 43) (rowK g43tp g43bp (g43K G_g43) args Bs k) (cond (Nat.beq f 39) (rowK g39tp g39bp (g39K G_g39) args Bs k) (none)))))
  loop := fun id st k => none
  ro := fun f => cond (Nat.beq f 35) [0, 1] (cond (Nat.beq f 37) [0, 1] (cond (Nat.beq f 39) [0, 1, 2, 3] (cond (Nat.beq f 42) [0, 1] (cond (Nat.beq f 43) [0, 1] ([])))))
def g12h (m : Nat) : Hd := g12hd (g35 m) (g37 m) (g42 m) (g43 m) (g39 m)
theorem g12Main (G_g35 : {α : Type} → Nat → Nat → Nat → Nat → Nat → Nat → Int → Nat → (List Int) → Nat → (List Int) → (Int → Option α) → Option α) (G_g37 : {α : Type} → Nat → Nat → Nat → Nat → Nat → Nat → Nat → (List Int) → Nat → (List Int) → ((List Int) → (List Int) → Option α) → Option α) (G_g42 : {α : Type} → Nat → Nat → Nat → Nat → Nat → Nat → Nat → (List Int) → Nat → (List Int) → (ByteArray → Option α) → Option α) (G_g43 : {α : Type} → Nat → Nat → Nat → Nat → Nat → Nat → Nat → (List Int) → Nat → (List Int) → (ByteArray → Option α) → Option α) (G_g39 : {α : Type} → Nat → Nat → Nat → Nat → Nat → Nat → Nat → Nat → Nat → Nat → Nat → Nat → Nat → (List Int) → Nat → (List Int) → Nat → (List Int) → Nat → (List Int) → (Bool → Option α) → Option α)  {α : Type} (ls : List Lf) (k : TV → List (List Seg) → List (List Seg) → Option α) :
    g12K (g12b G_g35 G_g37 G_g42 G_g43 G_g39) ls k = evFun tab (g12hd G_g35 G_g37 G_g42 G_g43 G_g39) Go.Proofs.Try.f12 (fillT g12tp ls).1 (fillB g12bp (fillT g12tp ls).2).1 k := by kernel_rfl
theorem g12Calls (m : Nat) : (g12h m).CallsOk Go.Proofs.Try.prog := (cok_cons (g35Ok m) (cok_cons (g37Ok m) (cok_cons (g42Ok m) (cok_cons (g43Ok m) (cok_cons (g39Ok m) cok_nil)))))
theorem g12Fn (m : Nat) : FnOk Go.Proofs.Try.prog 12 g12tp g12bp (fun {α} => g12K (g12 (α := α) m)) :=
  fn_ok (tab := tab) (h := g12h m) (fn := Go.Proofs.Try.f12) (F := fun {α} => g12K (g12 (α := α) m)) tabOk (g12Calls m) mixed (by kernel_rfl) (by kernel_rfl) (fun c hc => by
    rw [bodyOf_some hc]
    exact loopsOk_of _ (fun p hp => by rw [show loopsOf (bodyOf Go.Proofs.Try.f12) = [] by kernel_rfl] at hp; cases hp))
    (fun α ls k => g12Main (g35 m) (g37 m) (g42 m) (g43 m) (g39 m) ls k)
theorem g12Ok (m : Nat) : RowOk Go.Proofs.Try.prog 12 (fun {α} => rowK g12tp g12bp (g12K (g12 (α := α) m))) := row_of (g12Fn m)

/-! ### g80: spec.l03At -/
def g80b {α : Type}   (p574 : Int) (m575 : Nat) (m576 : Nat) (m577 : Nat) (m578 : Nat) (m579 : Nat) (m580 : Nat) (m581 : Nat) (u582 : List Int) (m583 : Nat) (u584 : List Int) (k590 : Int → Option α) : Option α :=
  cond (decide (p574 < ((m576 : Nat) : Int)))
   (
    if 0 ≤ p574 ∧ p574 < (m576 : Nat) then
      if (m575 + p574.toNat) < m581 then
        k590 (List.getD u582 (m575 + p574.toNat) 0)
      else
        none
    else
      none)
   (
    if ((m579 : Nat) : Int) = 0 then
      none
    else
      let x588 : Int := Int.tmod (IntKind.wrap .i64 (p574 - ((m576 : Nat) : Int))) ((m579 : Nat) : Int)
      if 0 ≤ x588 ∧ x588 < (m579 : Nat) then
        if (m578 + x588.toNat) < m583 then
          k590 (List.getD u584 (m578 + x588.toNat) 0)
        else
          none
      else
        none)
def g80 {α : Type} (m : Nat) : Int → Nat → Nat → Nat → Nat → Nat → Nat → Nat → (List Int) → Nat → (List Int) → (Int → Option α) → Option α :=
  g80b
def g80tp : List TP := [(.vl (.sv (.ptr 0 0))), (.vl (.sv (.int .i64)))]
def g80bp : List BP := [(false, [(.one (.slc 1 0 1)), (.one (.slc 2 0 1))]), (false, [(.seqv (.int .i8))]), (false, [(.seqv (.int .i8))])]
def g80K {α : Type} (G : Int → Nat → Nat → Nat → Nat → Nat → Nat → Nat → (List Int) → Nat → (List Int) → (Int → Option α) → Option α) (ls : List Lf) (k : TV → List (List Seg) → List (List Seg) → Option α) : Option α :=
  G (lf ls 0).int (lf ls 1).nat (lf ls 2).nat (lf ls 3).nat (lf ls 4).nat (lf ls 5).nat (lf ls 6).nat (lf ls 7).nat ((lf ls 8).lst (.int .i8)) (lf ls 9).nat ((lf ls 10).lst (.int .i8))
    (fun y0 => k (.vl (.sv (.int .i8 y0))) [[(.one (.slc 1 0 1 (lf ls 1).nat (lf ls 2).nat (lf ls 3).nat)), (.one (.slc 2 0 1 (lf ls 4).nat (lf ls 5).nat (lf ls 6).nat))], [(.seq (.int .i8) (lf ls 7).nat ((lf ls 8).lst (.int .i8)))], [(.seq (.int .i8) (lf ls 9).nat ((lf ls 10).lst (.int .i8)))]] [])
def g80hd   : Hd where
  call := fun f args Bs k => none
  loop := fun id st k => none
  ro := fun f => []
def g80h (m : Nat) : Hd := g80hd
theorem g80Main   {α : Type} (ls : List Lf) (k : TV → List (List Seg) → List (List Seg) → Option α) :
    g80K (g80b) ls k = evFun tab (g80hd) Go.Proofs.Try.f80 (fillT g80tp ls).1 (fillB g80bp (fillT g80tp ls).2).1 k := by kernel_rfl
theorem g80Calls (m : Nat) : (g80h m).CallsOk Go.Proofs.Try.prog := cok_nil
theorem g80Fn (m : Nat) : FnOk Go.Proofs.Try.prog 80 g80tp g80bp (fun {α} => g80K (g80 (α := α) m)) :=
  fn_ok (tab := tab) (h := g80h m) (fn := Go.Proofs.Try.f80) (F := fun {α} => g80K (g80 (α := α) m)) tabOk (g80Calls m) mixed (by kernel_rfl) (by kernel_rfl) (fun c hc => by
    rw [bodyOf_some hc]
    exact loopsOk_of _ (fun p hp => by rw [show loopsOf (bodyOf Go.Proofs.Try.f80) = [] by kernel_rfl] at hp; cases hp))
    (fun α ls k => g80Main ls k)
theorem g80Ok (m : Nat) : RowOk Go.Proofs.Try.prog 80 (fun {α} => rowK g80tp g80bp (g80K (g80 (α := α) m))) := row_of (g80Fn m)

/-! ### g44: spec.DigitAt -/
def g44b {α : Type} (G_g76 : {α : Type} → Nat → Nat → Nat → Nat → Nat → Nat → Nat → (List Int) → Nat → (List Int) → (Bool → Option α) → Option α) (G_g63 : {α : Type} → Int → Int → Int → (Bool → Option α) → Option α) (G_g80 : {α : Type} → Int → Nat → Nat → Nat → Nat → Nat → Nat → Nat → (List Int) → Nat → (List Int) → (Int → Option α) → Option α)  (m559 : Nat) (m560 : Nat) (m561 : Nat) (m562 : Nat) (m563 : Nat) (m564 : Nat) (p565 : Int) (m566 : Nat) (u567 : List Int) (m568 : Nat) (u569 : List Int) (k592 : Int → Int → Option α) : Option α :=
  G_g76 m559 m560 m561 m562 m563 m564 m566 u567 m568 u569
    (fun b570 =>
      cond (!b570)
       (
        k592 (0 : Int) (1 : Int))
       (
        G_g63 p565 (0 : Int) (1000000000 : Int)
          (fun b572 =>
            cond (!b572)
             (
              k592 (0 : Int) (2 : Int))
             (
              G_g80 p565 m559 m560 m561 m562 m563 m564 m566 u567 m568 u569
                (fun x591 =>
                  k592 x591 (0 : Int))))))
def g44 {α : Type} (m : Nat) : Nat → Nat → Nat → Nat → Nat → Nat → Int → Nat → (List Int) → Nat → (List Int) → (Int → Int → Option α) → Option α :=
  g44b (g76 m) (g63 m) (g80 m)
def g44tp : List TP := [(.vl (.agg [(.one (.slc 0 0 1)), (.one (.slc 1 0 1))])), (.vl (.sv (.int .i64)))]
def g44bp : List BP := [(false, [(.seqv (.int .i8))]), (false, [(.seqv (.int .i8))])]
def g44K {α : Type} (G : Nat → Nat → Nat → Nat → Nat → Nat → Int → Nat → (List Int) → Nat → (List Int) → (Int → Int → Option α) → Option α) (ls : List Lf) (k : TV → List (List Seg) → List (List Seg) → Option α) : Option α :=
  G (lf ls 0).nat (lf ls 1).nat (lf ls 2).nat (lf ls 3).nat (lf ls 4).nat (lf ls 5).nat (lf ls 6).int (lf ls 7).nat ((lf ls 8).lst (.int .i8)) (lf ls 9).nat ((lf ls 10).lst (.int .i8))
    (fun y0 y1 => k (.tup [(.sv (.int .i8 y0)), (.sv (.int .i64 y1))]) [[(.seq (.int .i8) (lf ls 7).nat ((lf ls 8).lst (.int .i8)))], [(.seq (.int .i8) (lf ls 9).nat ((lf ls 10).lst (.int .i8)))]] [])
def g44hd (G_g76 : {α : Type} → Nat → Nat → Nat → Nat → Nat → Nat → Nat → (List Int) → Nat → (List Int) → (Bool → Option α) → Option α) (G_g63 : {α : Type} → Int → Int → Int → (Bool → Option α) → Option α) (G_g80 : {α : Type} → Int → Nat → Nat → Nat → Nat → Nat → Nat → Nat → (List Int) → Nat → (List Int) → (Int → Option α) → Option α)  : Hd where
  call := fun f args Bs k => cond (Nat.beq f 76) (rowK g76tp g76bp (g76K G_g76) args Bs k) (cond (Nat.beq f 63) (rowK g63tp g63bp (g63K G_g63) args Bs k) (cond (Nat.beq f 80) (rowK g80tp g80bp (g80K G_g80) args Bs k) (none)))
  loop := fun id st k => none
  ro := fun f => cond (Nat.beq f 76) [0, 1, 2] (cond (Nat.beq f 80) [0, 1, 2] ([]))
def g44h (m : Nat) : Hd := g44hd (g76 m) (g63 m) (g80 m)
theorem g44Main (G_g76 : {α : Type} → Nat → Nat → Nat → Nat → Nat → Nat → Nat → (List Int) → Nat → (List Int) → (Bool → Option α) → Option α) (G_g63 : {α : Type} → Int → Int → Int → (Bool → Option α) → Option α) (G_g80 : {α : Type} → Int → Nat → Nat → Nat → Nat → Nat → Nat → Nat → (List Int) → Nat → (List Int) → (Int → Option α) → Option α)  {α : Type} (ls : List Lf) (k : TV → List (List Seg) → List (List Seg) → Option α) :
    g44K (g44b G_g76 G_g63 G_g80) ls k = evFun tab (g44hd G_g76 G_g63 G_g80) Go.Proofs.Try.f44 (fillT g44tp ls).1 (fillB g44bp (fillT g44tp ls).2).1 k := by kernel_rfl
theorem g44Calls (m : Nat) : (g44h m).CallsOk Go.Proofs.Try.prog := (cok_cons (g76Ok m) (cok_cons (g63Ok m) (cok_cons (g80Ok m) cok_nil)))
theorem g44Fn (m : Nat) : FnOk Go.Proofs.Try.prog 44 g44tp g44bp (fun {α} => g44K (g44 (α := α) m)) :=
  fn_ok (tab := tab) (h := g44h m) (fn := Go.Proofs.Try.f44) (F := fun {α} => g44K (g44 (α := α) m)) tabOk (g44Calls m) mixed (by kernel_rfl) (by kernel_rfl) (fun c hc => by
    rw [bodyOf_some hc]
    exact loopsOk_of _ (fun p hp => by rw [show loopsOf (bodyOf Go.Proofs.Try.f44) = [] by kernel_rfl] at hp; cases hp))
    (fun α ls k => g44Main (g76 m) (g63 m) (g80 m) ls k)
theorem g44Ok (m : Nat) : RowOk Go.Proofs.Try.prog 44 (fun {α} => rowK g44tp g44bp (g44K (g44 (α := α) m))) := row_of (g44Fn m)

/-! ### g58: impl.within -/
def g58b {α : Type}   (p610 : Int) (p611 : Int) (p612 : Int) (k615 : Bool → Option α) : Option α :=
  cond (decide (p610 ≥ p611))
   (
    k615 (decide (p610 ≤ p612)))
   (
    k615 false)
def g58 {α : Type} (m : Nat) : Int → Int → Int → (Bool → Option α) → Option α :=
  g58b
def g58tp : List TP := [(.vl (.sv (.int .i64))), (.vl (.sv (.int .i64))), (.vl (.sv (.int .i64)))]
def g58bp : List BP := []
def g58K {α : Type} (G : Int → Int → Int → (Bool → Option α) → Option α) (ls : List Lf) (k : TV → List (List Seg) → List (List Seg) → Option α) : Option α :=
  G (lf ls 0).int (lf ls 1).int (lf ls 2).int
    (fun y0 => k (.vl (.sv (.bool y0))) [] [])
def g58hd   : Hd where
  call := fun f args Bs k => none
  loop := fun id st k => none
  ro := fun f => []
def g58h (m : Nat) : Hd := g58hd
theorem g58Main   {α : Type} (ls : List Lf) (k : TV → List (List Seg) → List (List Seg) → Option α) :
    g58K (g58b) ls k = evFun tab (g58hd) Go.Proofs.Try.f58 (fillT g58tp ls).1 (fillB g58bp (fillT g58tp ls).2).1 k := by kernel_rfl
theorem g58Calls (m : Nat) : (g58h m).CallsOk Go.Proofs.Try.prog := cok_nil
theorem g58Fn (m : Nat) : FnOk Go.Proofs.Try.prog 58 g58tp g58bp (fun {α} => g58K (g58 (α := α) m)) :=
  fn_ok (tab := tab) (h := g58h m) (fn := Go.Proofs.Try.f58) (F := fun {α} => g58K (g58 (α := α) m)) tabOk (g58Calls m) mixed (by kernel_rfl) (by kernel_rfl) (fun c hc => by
    rw [bodyOf_some hc]
    exact loopsOk_of _ (fun p hp => by rw [show loopsOf (bodyOf Go.Proofs.Try.f58) = [] by kernel_rfl] at hp; cases hp))
    (fun α ls k => g58Main ls k)
theorem g58Ok (m : Nat) : RowOk Go.Proofs.Try.prog 58 (fun {α} => rowK g58tp g58bp (g58K (g58 (α := α) m))) := row_of (g58Fn m)

/-! ### g81: (impl.Stream).at -/
def g81b {α : Type}   (m618 : Nat) (m619 : Nat) (m620 : Nat) (m621 : Nat) (m622 : Nat) (m623 : Nat) (p624 : Int) (m625 : Nat) (u626 : List Int) (m627 : Nat) (u628 : List Int) (k634 : Int → Option α) : Option α :=
  cond (decide (p624 < ((m619 : Nat) : Int)))
   (
    if 0 ≤ p624 ∧ p624 < (m619 : Nat) then
      if (m618 + p624.toNat) < m625 then
        k634 (List.getD u626 (m618 + p624.toNat) 0)
      else
        none
    else
      none)
   (
    if ((m622 : Nat) : Int) = 0 then
      none
    else
      let x632 : Int := Int.tmod (IntKind.wrap .i64 (p624 - ((m619 : Nat) : Int))) ((m622 : Nat) : Int)
      if 0 ≤ x632 ∧ x632 < (m622 : Nat) then
        if (m621 + x632.toNat) < m627 then
          k634 (List.getD u628 (m621 + x632.toNat) 0)
        else
          none
      else
        none)
def g81 {α : Type} (m : Nat) : Nat → Nat → Nat → Nat → Nat → Nat → Int → Nat → (List Int) → Nat → (List Int) → (Int → Option α) → Option α :=
  g81b
def g81tp : List TP := [(.vl (.agg [(.one (.slc 0 0 1)), (.one (.slc 1 0 1))])), (.vl (.sv (.int .i64)))]
def g81bp : List BP := [(false, [(.seqv (.int .i8))]), (false, [(.seqv (.int .i8))])]
def g81K {α : Type} (G : Nat → Nat → Nat → Nat → Nat → Nat → Int → Nat → (List Int) → Nat → (List Int) → (Int → Option α) → Option α) (ls : List Lf) (k : TV → List (List Seg) → List (List Seg) → Option α) : Option α :=
  G (lf ls 0).nat (lf ls 1).nat (lf ls 2).nat (lf ls 3).nat (lf ls 4).nat (lf ls 5).nat (lf ls 6).int (lf ls 7).nat ((lf ls 8).lst (.int .i8)) (lf ls 9).nat ((lf ls 10).lst (.int .i8))
    (fun y0 => k (.vl (.sv (.int .i8 y0))) [[(.seq (.int .i8) (lf ls 7).nat ((lf ls 8).lst (.int .i8)))], [(.seq (.int .i8) (lf ls 9).nat ((lf ls 10).lst (.int .i8)))]] [])
def g81hd   : Hd where
  call := fun f args Bs k => none
  loop := fun id st k => none
  ro := fun f => []
def g81h (m : Nat) : Hd := g81hd
theorem g81Main   {α : Type} (ls : List Lf) (k : TV → List (List Seg) → List (List Seg) → Option α) :
    g81K (g81b) ls k = evFun tab (g81hd) Go.Proofs.Try.f81 (fillT g81tp ls).1 (fillB g81bp (fillT g81tp ls).2).1 k := by kernel_rfl
theorem g81Calls (m : Nat) : (g81h m).CallsOk Go.Proofs.Try.prog := cok_nil
theorem g81Fn (m : Nat) : FnOk Go.Proofs.Try.prog 81 g81tp g81bp (fun {α} => g81K (g81 (α := α) m)) :=
  fn_ok (tab := tab) (h := g81h m) (fn := Go.Proofs.Try.f81) (F := fun {α} => g81K (g81 (α := α) m)) tabOk (g81Calls m) mixed (by kernel_rfl) (by kernel_rfl) (fun c hc => by
    rw [bodyOf_some hc]
    exact loopsOk_of _ (fun p hp => by rw [show loopsOf (bodyOf Go.Proofs.Try.f81) = [] by kernel_rfl] at hp; cases hp))
    (fun α ls k => g81Main ls k)
theorem g81Ok (m : Nat) : RowOk Go.Proofs.Try.prog 81 (fun {α} => rowK g81tp g81bp (g81K (g81 (α := α) m))) := row_of (g81Fn m)

/-! ### g45: impl.DigitAt -/
def g45b {α : Type} (G_g41 : {α : Type} → Nat → Nat → Nat → Nat → Nat → Nat → Nat → (List Int) → Nat → (List Int) → (Bool → Option α) → Option α) (G_g58 : {α : Type} → Int → Int → Int → (Bool → Option α) → Option α) (G_g81 : {α : Type} → Nat → Nat → Nat → Nat → Nat → Nat → Int → Nat → (List Int) → Nat → (List Int) → (Int → Option α) → Option α)  (m597 : Nat) (m598 : Nat) (m599 : Nat) (m600 : Nat) (m601 : Nat) (m602 : Nat) (p603 : Int) (m604 : Nat) (u605 : List Int) (m606 : Nat) (u607 : List Int) (k636 : Int → Int → Option α) : Option α :=
  G_g41 m597 m598 m599 m600 m601 m602 m604 u605 m606 u607
    (fun b608 =>
      cond (!b608)
       (
        k636 (0 : Int) (1 : Int))
       (
        G_g58 p603 (0 : Int) (1000000000 : Int)
          (fun b616 =>
            cond (!b616)
             (
              k636 (0 : Int) (2 : Int))
             (
              G_g81 m597 m598 m599 m600 m601 m602 p603 m604 u605 m606 u607
                (fun x635 =>
                  k636 x635 (0 : Int))))))
def g45 {α : Type} (m : Nat) : Nat → Nat → Nat → Nat → Nat → Nat → Int → Nat → (List Int) → Nat → (List Int) → (Int → Int → Option α) → Option α :=
  g45b (g41 m) (g58 m) (g81 m)
def g45tp : List TP := [(.vl (.agg [(.one (.slc 0 0 1)), (.one (.slc 1 0 1))])), (.vl (.sv (.int .i64)))]
def g45bp : List BP := [(false, [(.seqv (.int .i8))]), (false, [(.seqv (.int .i8))])]
def g45K {α : Type} (G : Nat → Nat → Nat → Nat → Nat → Nat → Int → Nat → (List Int) → Nat → (List Int) → (Int → Int → Option α) → Option α) (ls : List Lf) (k : TV → List (List Seg) → List (List Seg) → Option α) : Option α :=
  G (lf ls 0).nat (lf ls 1).nat (lf ls 2).nat (lf ls 3).nat (lf ls 4).nat (lf ls 5).nat (lf ls 6).int (lf ls 7).nat ((lf ls 8).lst (.int .i8)) (lf ls 9).nat ((lf ls 10).lst (.int .i8))
    (fun y0 y1 => k (.tup [(.sv (.int .i8 y0)), (.sv (.int .i64 y1))]) [[(.seq (.int .i8) (lf ls 7).nat ((lf ls 8).lst (.int .i8)))], [(.seq (.int .i8) (lf ls 9).nat ((lf ls 10).lst (.int .i8)))]] [])
def g45hd (G_g41 : {α : Type} → Nat → Nat → Nat → Nat → Nat → Nat → Nat → (List Int) → Nat → (List Int) → (Bool → Option α) → Option α) (G_g58 : {α : Type} → Int → Int → Int → (Bool → Option α) → Option α) (G_g81 : {α : Type} → Nat → Nat → Nat → Nat → Nat → Nat → Int → Nat → (List Int) → Nat → (List Int) → (Int → Option α) → Option α)  : Hd where
  call := fun f args Bs k => cond (Nat.beq f 41) (rowK g41tp g41bp (g41K G_g41) args Bs k) (cond (Nat.beq f 58) (rowK g58tp g58bp (g58K G_g58) args Bs k) (cond (Nat.beq f 81) (rowK g81tp g81bp (g81K G_g81) args Bs k) (none)))
  loop := fun id st k => none
  ro := fun f => cond (Nat.beq f 41) [0, 1] (cond (Nat.beq f 81) [0, 1] ([]))
def g45h (m : Nat) : Hd := g45hd (g41 m) (g58 m) (g81 m)
theorem g45Main (G_g41 : {α : Type} → Nat → Nat → Nat → Nat → Nat → Nat → Nat → (List Int) → Nat → (List Int) → (Bool → Option α) → Option α) (G_g58 : {α : Type} → Int → Int → Int → (Bool → Option α) → Option α) (G_g81 : {α : Type} → Nat → Nat → Nat → Nat → Nat → Nat → Int → Nat → (List Int) → Nat → (List Int) → (Int → Option α) → Option α)  {α : Type} (ls : List Lf) (k : TV → List (List Seg) → List (List Seg) → Option α) :
    g45K (g45b G_g41 G_g58 G_g81) ls k = evFun tab (g45hd G_g41 G_g58 G_g81) Go.Proofs.Try.f45 (fillT g45tp ls).1 (fillB g45bp (fillT g45tp ls).2).1 k := by kernel_rfl
theorem g45Calls (m : Nat) : (g45h m).CallsOk Go.Proofs.Try.prog := (cok_cons (g41Ok m) (cok_cons (g58Ok m) (cok_cons (g81Ok m) cok_nil)))
theorem g45Fn (m : Nat) : FnOk Go.Proofs.Try.prog 45 g45tp g45bp (fun {α} => g45K (g45 (α := α) m)) :=
  fn_ok (tab := tab) (h := g45h m) (fn := Go.Proofs.Try.f45) (F := fun {α} => g45K (g45 (α := α) m)) tabOk (g45Calls m) mixed (by kernel_rfl) (by kernel_rfl) (fun c hc => by
    rw [bodyOf_some hc]
    exact loopsOk_of _ (fun p hp => by rw [show loopsOf (bodyOf Go.Proofs.Try.f45) = [] by kernel_rfl] at hp; cases hp))
    (fun α ls k => g45Main (g41 m) (g58 m) (g81 m) ls k)
theorem g45Ok (m : Nat) : RowOk Go.Proofs.Try.prog 45 (fun {α} => rowK g45tp g45bp (g45K (g45 (α := α) m))) := row_of (g45Fn m)

/-! ### g13: laws.FnExactDigitAt -/
def g13b {α : Type} (G_g35 : {α : Type} → Nat → Nat → Nat → Nat → Nat → Nat → Int → Nat → (List Int) → Nat → (List Int) → (Int → Option α) → Option α) (G_g37 : {α : Type} → Nat → Nat → Nat → Nat → Nat → Nat → Nat → (List Int) → Nat → (List Int) → ((List Int) → (List Int) → Option α) → Option α) (G_g44 : {α : Type} → Nat → Nat → Nat → Nat → Nat → Nat → Int → Nat → (List Int) → Nat → (List Int) → (Int → Int → Option α) → Option α) (G_g45 : {α : Type} → Nat → Nat → Nat → Nat → Nat → Nat → Int → Nat → (List Int) → Nat → (List Int) → (Int → Int → Option α) → Option α) (G_g39 : {α : Type} → Nat → Nat → Nat → Nat → Nat → Nat → Nat → Nat → Nat → Nat → Nat → Nat → Nat → (List Int) → Nat → (List Int) → Nat → (List Int) → Nat → (List Int) → (Bool → Option α) → Option α)  (m544 : Nat) (m545 : Nat) (m546 : Nat) (m547 : Nat) (m548 : Nat) (m549 : Nat) (p550 : Int) (m551 : Nat) (u552 : List Int) (m553 : Nat) (u554 : List Int) (k645 : Bool → Option α) : Option α :=
  G_g35 m544 m545 m546 m547 m548 m549 (1048576 : Int) m551 u552 m553 u554
    (fun x555 =>
      cond (decide (x555 < (0 : Int)))
       (
        k645 true)
       (
        G_g37 m544 m545 m546 m547 m548 m549 m551 u552 m553 u554
          (fun l557 l558 =>
            G_g44 0 m545 m545 0 m548 m548 p550 m545 l557 m548 l558
              (fun x593 x594 =>
                G_g37 m544 m545 m546 m547 m548 m549 m551 u552 m553 u554
                  (fun l595 l596 =>
                    G_g45 0 m545 m545 0 m548 m548 p550 m545 l595 m548 l596
                      (fun x637 x638 =>
                        cond (x637 != x593)
                         (
                          k645 false)
                         (
                          cond (x638 != x594)
                           (
                            k645 false)
                           (
                            G_g37 m544 m545 m546 m547 m548 m549 m551 u552 m553 u554
                              (fun l641 l642 =>
                                G_g39 0 m545 m545 0 m548 m548 0 m545 m545 0 m548 m548 m545 l595 m548 l596 m545 l641 m548 l642
                                  (fun b643 =>
                                    cond (!b643)
                                     (
                                      k645 false)
                                     (
                                      k645 true)))))))))))
def g13 {α : Type} (m : Nat) : Nat → Nat → Nat → Nat → Nat → Nat → Int → Nat → (List Int) → Nat → (List Int) → (Bool → Option α) → Option α :=
  g13b (g35 m) (g37 m) (g44 m) (g45 m) (g39 m)
def g13tp : List TP := [(.vl (.agg [(.one (.sla 0 0 1)), (.one (.sla 1 0 1))])), (.vl (.sv (.int .i64)))]
def g13bp : List BP := [(false, [(.seqv (.int .i8))]), (false, [(.seqv (.int .i8))])]
def g13K {α : Type} (G : Nat → Nat → Nat → Nat → Nat → Nat → Int → Nat → (List Int) → Nat → (List Int) → (Bool → Option α) → Option α) (ls : List Lf) (k : TV → List (List Seg) → List (List Seg) → Option α) : Option α :=
  G (lf ls 0).nat (lf ls 1).nat (lf ls 2).nat (lf ls 3).nat (lf ls 4).nat (lf ls 5).nat (lf ls 6).int (lf ls 7).nat ((lf ls 8).lst (.int .i8)) (lf ls 9).nat ((lf ls 10).lst (.int .i8))
    (fun y0 => k (.vl (.sv (.bool y0))) [[(.seq (.int .i8) (lf ls 7).nat ((lf ls 8).lst (.int .i8)))], [(.seq (.int .i8) (lf ls 9).nat ((lf ls 10).lst (.int .i8)))]] [])
def g13hd (G_g35 : {α : Type} → Nat → Nat → Nat → Nat → Nat → Nat → Int → Nat → (List Int) → Nat → (List Int) → (Int → Option α) → Option α) (G_g37 : {α : Type} → Nat → Nat → Nat → Nat → Nat → Nat → Nat → (List Int) → Nat → (List Int) → ((List Int) → (List Int) → Option α) → Option α) (G_g44 : {α : Type} → Nat → Nat → Nat → Nat → Nat → Nat → Int → Nat → (List Int) → Nat → (List Int) → (Int → Int → Option α) → Option α) (G_g45 : {α : Type} → Nat → Nat → Nat → Nat → Nat → Nat → Int → Nat → (List Int) → Nat → (List Int) → (Int → Int → Option α) → Option α) (G_g39 : {α : Type} → Nat → Nat → Nat → Nat → Nat → Nat → Nat → Nat → Nat → Nat → Nat → Nat → Nat → (List Int) → Nat → (List Int) → Nat → (List Int) → Nat → (List Int) → (Bool → Option α) → Option α)  : Hd where
  call := fun f args Bs k => cond (Nat.beq f 35) (rowK g35tp g35bp (g35K G_g35) args Bs k) (cond (Nat.beq f 37) (rowK g37tp g37bp (g37K G_g37) args Bs k) (cond (Nat.beq f 44) (rowK g44tp g44bp (g44K G_g44) args Bs k) (cond (Nat.beq f 45) (rowK g45tp g45bp (g45K G_g45) args Bs k) (cond (Nat.beq f 39) (rowK g39tp g39bp (g39K G_g39) args Bs k) (none)))))
  loop := fun id st k => none
  ro := fun f => cond (Nat.beq f 35) [0, 1] (cond (Nat.beq f 37) [0, 1] (cond (Nat.beq f 39) [0, 1, 2, 3] (cond (Nat.beq f 44) [0, 1] (cond (Nat.beq f 45) [0, 1] ([])))))
def g13h (m : Nat) : Hd := g13hd (g35 m) (g37 m) (g44 m) (g45 m) (g39 m)
theorem g13Main (G_g35 : {α : Type} → Nat → Nat → Nat → Nat → Nat → Nat → Int → Nat → (List Int) → Nat → (List Int) → (Int → Option α) → Option α) (G_g37 : {α : Type} → Nat → Nat → Nat → Nat → Nat → Nat → Nat → (List Int) → Nat → (List Int) → ((List Int) → (List Int) → Option α) → Option α) (G_g44 : {α : Type} → Nat → Nat → Nat → Nat → Nat → Nat → Int → Nat → (List Int) → Nat → (List Int) → (Int → Int → Option α) → Option α) (G_g45 : {α : Type} → Nat → Nat → Nat → Nat → Nat → Nat → Int → Nat → (List Int) → Nat → (List Int) → (Int → Int → Option α) → Option α) (G_g39 : {α : Type} → Nat → Nat → Nat → Nat → Nat → Nat → Nat → Nat → Nat → Nat → Nat → Nat → Nat → (List Int) → Nat → (List Int) → Nat → (List Int) → Nat → (List Int) → (Bool → Option α) → Option α)  {α : Type} (ls : List Lf) (k : TV → List (List Seg) → List (List Seg) → Option α) :
    g13K (g13b G_g35 G_g37 G_g44 G_g45 G_g39) ls k = evFun tab (g13hd G_g35 G_g37 G_g44 G_g45 G_g39) Go.Proofs.Try.f13 (fillT g13tp ls).1 (fillB g13bp (fillT g13tp ls).2).1 k := by kernel_rfl
theorem g13Calls (m : Nat) : (g13h m).CallsOk Go.Proofs.Try.prog := (cok_cons (g35Ok m) (cok_cons (g37Ok m) (cok_cons (g44Ok m) (cok_cons (g45Ok m) (cok_cons (g39Ok m) cok_nil)))))
theorem g13Fn (m : Nat) : FnOk Go.Proofs.Try.prog 13 g13tp g13bp (fun {α} => g13K (g13 (α := α) m)) :=
  fn_ok (tab := tab) (h := g13h m) (fn := Go.Proofs.Try.f13) (F := fun {α} => g13K (g13 (α := α) m)) tabOk (g13Calls m) mixed (by kernel_rfl) (by kernel_rfl) (fun c hc => by
    rw [bodyOf_some hc]
    exact loopsOk_of _ (fun p hp => by rw [show loopsOf (bodyOf Go.Proofs.Try.f13) = [] by kernel_rfl] at hp; cases hp))
    (fun α ls k => g13Main (g35 m) (g37 m) (g44 m) (g45 m) (g39 m) ls k)
theorem g13Ok (m : Nat) : RowOk Go.Proofs.Try.prog 13 (fun {α} => rowK g13tp g13bp (g13K (g13 (α := α) m))) := row_of (g13Fn m)

/-! ### g82: spec.l03Neg -/
def g82l0b {α : Type}   (m677 : Nat) (m678 : Nat) (m679 : Nat) (m681 : Nat) (a682 : List Int) (k689 : (List Int) → Option α) (r690 : Int → (List Int) → Option α) (v680 : Int) (a683 : List Int) : Option α :=
  cond (decide (v680 < ((m678 : Nat) : Int)))
   (
    if 0 ≤ v680 ∧ v680 < (m678 : Nat) then
      if (m677 + v680.toNat) < m681 then
        if a683.length + 1 ≤ 67108864 then
          r690 (IntKind.wrap .i64 (v680 + (1 : Int))) (a683 ++ [(IntKind.wrap .i8 (0 - (List.getD a682 (m677 + v680.toNat) 0)))])
        else
          none
      else
        none
    else
      none)
   (
    k689 a683)
def g82l0 {α : Type}   (m677 : Nat) (m678 : Nat) (m679 : Nat) (m681 : Nat) (a682 : List Int) (k689 : (List Int) → Option α) : Nat → Int → (List Int) → Option α
  | 0 => fun _ _ => none
  | m + 1 => fun v680 a683 => g82l0b m677 m678 m679 m681 a682 k689 (g82l0 m677 m678 m679 m681 a682 k689 m) v680 a683
def g82l0M {α : Type} (m : Nat) : Nat → Nat → Nat → Nat → (List Int) → ((List Int) → Option α) → Int → (List Int) → Option α :=
  fun m677 m678 m679 m681 a682 k689 v680 a683 => g82l0 m677 m678 m679 m681 a682 k689 m v680 a683
def g82l0D : LoopD := { n := 21, low := [0], sl := [0, 3, 4], bl := [0, 1000001], tp := [(.vl (.sv (.slc 0 0 1))), (.vl (.sv (.gsl 1000001 1))), (.vl (.sv (.int .i64)))], bp := [(false, [(.seqv (.int .i8))]), (true, [(.gro (.int .i8))])], xs := [(2, [3])] }
def g82l0K {α : Type} (L : Nat → Nat → Nat → Nat → (List Int) → ((List Int) → Option α) → Int → (List Int) → Option α) (ls : List Lf) (k : Ex → St → Option α) : Option α :=
  L (lf ls 0).nat (lf ls 1).nat (lf ls 2).nat (lf ls 4).nat ((lf ls 5).lst (.int .i8))
    (fun y2 => k .normal (mkSt 21 [3] [(.vl (.sv (.gsl 1000001 1)))] [0, 1000001] [(false, [(.seq (.int .i8) (lf ls 4).nat ((lf ls 5).lst (.int .i8)))]), (true, [(.gro (.int .i8) y2)])]))
    (lf ls 3).int ((lf ls 6).lst (.int .i8))
def g82b {α : Type}  (L_g82l0 : {α : Type} → Nat → Nat → Nat → Nat → (List Int) → ((List Int) → Option α) → Int → (List Int) → Option α) (m672 : Nat) (m673 : Nat) (m674 : Nat) (m675 : Nat) (u676 : List Int) (k692 : (List Int) → Option α) : Option α :=
  L_g82l0 m672 m673 m674 m675 u676
    (fun l691 =>
      k692 l691)
    (0 : Int) []
def g82 {α : Type} (m : Nat) : Nat → Nat → Nat → Nat → (List Int) → ((List Int) → Option α) → Option α :=
  g82b (g82l0M m)
def g82tp : List TP := [(.vl (.sv (.slc 0 0 1)))]
def g82bp : List BP := [(false, [(.seqv (.int .i8))])]
def g82K {α : Type} (G : Nat → Nat → Nat → Nat → (List Int) → ((List Int) → Option α) → Option α) (ls : List Lf) (k : TV → List (List Seg) → List (List Seg) → Option α) : Option α :=
  G (lf ls 0).nat (lf ls 1).nat (lf ls 2).nat (lf ls 3).nat ((lf ls 4).lst (.int .i8))
    (fun y2 => k (.vl (.sv (.gsl 1 1))) [[(.seq (.int .i8) (lf ls 3).nat ((lf ls 4).lst (.int .i8)))]] [[(.gro (.int .i8) y2)]])
def g82hd  (L_g82l0 : {α : Type} → Nat → Nat → Nat → Nat → (List Int) → ((List Int) → Option α) → Int → (List Int) → Option α) : Hd where
  call := fun f args Bs k => none
  loop := fun id st k => cond (Nat.beq id 0) (loopH g82l0D (g82l0K L_g82l0) st k) (none)
  ro := fun f => []
def g82h (m : Nat) : Hd := g82hd (g82l0M m)
theorem g82l0Step  (L_g82l0 : {α : Type} → Nat → Nat → Nat → Nat → (List Int) → ((List Int) → Option α) → Int → (List Int) → Option α) {α : Type} (L : Nat → Nat → Nat → Nat → (List Int) → ((List Int) → Option α) → Int → (List Int) → Option α) (ls : List Lf) (k : Ex → St → Option α) :
    g82l0K (fun m677 m678 m679 m681 a682 k689 v680 a683 => g82l0b m677 m678 m679 m681 a682 k689 (L m677 m678 m679 m681 a682 k689) v680 a683) ls k = ev tab (g82hd L_g82l0) (bodyAt Go.Proofs.Try.f82 0) (atHead g82l0D ls) (loopK g82l0D 0 (loopH g82l0D (g82l0K L)) k) := by kernel_rfl
theorem g82Main  (L_g82l0 : {α : Type} → Nat → Nat → Nat → Nat → (List Int) → ((List Int) → Option α) → Int → (List Int) → Option α) {α : Type} (ls : List Lf) (k : TV → List (List Seg) → List (List Seg) → Option α) :
    g82K (g82b L_g82l0) ls k = evFun tab (g82hd L_g82l0) Go.Proofs.Try.f82 (fillT g82tp ls).1 (fillB g82bp (fillT g82tp ls).2).1 k := by kernel_rfl
theorem g82Calls (m : Nat) : (g82h m).CallsOk Go.Proofs.Try.prog := cok_nil
theorem g82l0Ok (m : Nat) (α : Type) (st : St) (k : Ex → St → Option α) (r : α) (h : (g82h m).loop 0 st k = some r) :
    ∃ e st', k e st' = some r ∧ CodeS Go.Proofs.Try.prog (.block 0 (.loop (bodyAt Go.Proofs.Try.f82 0))) st e st' :=
  loop_ok (tab := tab) (h := g82h m) (F := fun n ls k => g82l0K (fun m677 m678 m679 m681 a682 k689 v680 a683 => g82l0 m677 m678 m679 m681 a682 k689 n v680 a683) ls k) tabOk (g82Calls m) mixed (loopsOk_of _ (fun p hp => by rw [show loopsOf (bodyAt Go.Proofs.Try.f82 0) = [] by kernel_rfl] at hp; cases hp))
    (fun _ _ => rfl) (fun n ls k => g82l0Step (g82l0M m) (fun m677 m678 m679 m681 a682 k689 => g82l0 m677 m678 m679 m681 a682 k689 n) ls k) (n := m) h
theorem g82Fn (m : Nat) : FnOk Go.Proofs.Try.prog 82 g82tp g82bp (fun {α} => g82K (g82 (α := α) m)) :=
  fn_ok (tab := tab) (h := g82h m) (fn := Go.Proofs.Try.f82) (F := fun {α} => g82K (g82 (α := α) m)) tabOk (g82Calls m) mixed (by kernel_rfl) (by kernel_rfl) (fun c hc => by
    rw [bodyOf_some hc]
    exact loopsOk_of _ (fun p hp => by
    rw [show loopsOf (bodyOf Go.Proofs.Try.f82) = [(0, bodyAt Go.Proofs.Try.f82 0)] by kernel_rfl] at hp
    simp only [List.mem_cons, List.not_mem_nil, or_false] at hp
    rcases hp with rfl
    exact g82l0Ok m))
    (fun α ls k => g82Main (g82l0M m) ls k)
theorem g82Ok (m : Nat) : RowOk Go.Proofs.Try.prog 82 (fun {α} => rowK g82tp g82bp (g82K (g82 (α := α) m))) := row_of (g82Fn m)

/-! ### g46: spec.NegStream -/
def g46b {α : Type} (G_g76 : {α : Type} → Nat → Nat → Nat → Nat → Nat → Nat → Nat → (List Int) → Nat → (List Int) → (Bool → Option α) → Option α) (G_g82 : {α : Type} → Nat → Nat → Nat → Nat → (List Int) → ((List Int) → Option α) → Option α)  (m660 : Nat) (m661 : Nat) (m662 : Nat) (m663 : Nat) (m664 : Nat) (m665 : Nat) (m666 : Nat) (u667 : List Int) (m668 : Nat) (u669 : List Int) (k695 : Option α) (k696 : (List Int) → (List Int) → Option α) : Option α :=
  G_g76 m660 m661 m662 m663 m664 m665 m666 u667 m668 u669
    (fun b670 =>
      cond (!b670)
       (
        k695)
       (
        G_g82 m660 m661 m662 m666 u667
          (fun l693 =>
            G_g82 m663 m664 m665 m668 u669
              (fun l694 =>
                k696 l693 l694))))
def g46 {α : Type} (m : Nat) : Nat → Nat → Nat → Nat → Nat → Nat → Nat → (List Int) → Nat → (List Int) → (Option α) → ((List Int) → (List Int) → Option α) → Option α :=
  g46b (g76 m) (g82 m)
def g46tp : List TP := [(.vl (.agg [(.one (.slc 0 0 1)), (.one (.slc 1 0 1))]))]
def g46bp : List BP := [(false, [(.seqv (.int .i8))]), (false, [(.seqv (.int .i8))])]
def g46K {α : Type} (G : Nat → Nat → Nat → Nat → Nat → Nat → Nat → (List Int) → Nat → (List Int) → (Option α) → ((List Int) → (List Int) → Option α) → Option α) (ls : List Lf) (k : TV → List (List Seg) → List (List Seg) → Option α) : Option α :=
  G (lf ls 0).nat (lf ls 1).nat (lf ls 2).nat (lf ls 3).nat (lf ls 4).nat (lf ls 5).nat (lf ls 6).nat ((lf ls 7).lst (.int .i8)) (lf ls 8).nat ((lf ls 9).lst (.int .i8))
    (k (.tup [(.agg [(.one .nils), (.one .nils)]), (.sv (.int .i64 (1 : Int)))]) [[(.seq (.int .i8) (lf ls 6).nat ((lf ls 7).lst (.int .i8)))], [(.seq (.int .i8) (lf ls 8).nat ((lf ls 9).lst (.int .i8)))]] [])
    (fun y5 y6 => k (.tup [(.agg [(.one (.gsl 2 1)), (.one (.gsl 3 1))]), (.sv (.int .i64 (0 : Int)))]) [[(.seq (.int .i8) (lf ls 6).nat ((lf ls 7).lst (.int .i8)))], [(.seq (.int .i8) (lf ls 8).nat ((lf ls 9).lst (.int .i8)))]] [[(.gro (.int .i8) y5)], [(.gro (.int .i8) y6)]])
def g46hd (G_g76 : {α : Type} → Nat → Nat → Nat → Nat → Nat → Nat → Nat → (List Int) → Nat → (List Int) → (Bool → Option α) → Option α) (G_g82 : {α : Type} → Nat → Nat → Nat → Nat → (List Int) → ((List Int) → Option α) → Option α)  : Hd where
  call := fun f args Bs k => cond (Nat.beq f 76) (rowK g76tp g76bp (g76K G_g76) args Bs k) (cond (Nat.beq f 82) (rowK g82tp g82bp (g82K G_g82) args Bs k) (none))
  loop := fun id st k => none
  ro := fun f => cond (Nat.beq f 76) [0, 1, 2] (cond (Nat.beq f 82) [0] ([]))
def g46h (m : Nat) : Hd := g46hd (g76 m) (g82 m)
theorem g46Main (G_g76 : {α : Type} → Nat → Nat → Nat → Nat → Nat → Nat → Nat → (List Int) → Nat → (List Int) → (Bool → Option α) → Option α) (G_g82 : {α : Type} → Nat → Nat → Nat → Nat → (List Int) → ((List Int) → Option α) → Option α)  {α : Type} (ls : List Lf) (k : TV → List (List Seg) → List (List Seg) → Option α) :
    g46K (g46b G_g76 G_g82) ls k = evFun tab (g46hd G_g76 G_g82) Go.Proofs.Try.f46 (fillT g46tp ls).1 (fillB g46bp (fillT g46tp ls).2).1 k := by kernel_rfl
theorem g46Calls (m : Nat) : (g46h m).CallsOk Go.Proofs.Try.prog := (cok_cons (g76Ok m) (cok_cons (g82Ok m) cok_nil))
theorem g46Fn (m : Nat) : FnOk Go.Proofs.Try.prog 46 g46tp g46bp (fun {α} => g46K (g46 (α := α) m)) :=
  fn_ok (tab := tab) (h := g46h m) (fn := Go.Proofs.Try.f46) (F := fun {α} => g46K (g46 (α := α) m)) tabOk (g46Calls m) mixed (by kernel_rfl) (by kernel_rfl) (fun c hc => by
    rw [bodyOf_some hc]
    exact loopsOk_of _ (fun p hp => by rw [show loopsOf (bodyOf Go.Proofs.Try.f46) = [] by kernel_rfl] at hp; cases hp))
    (fun α ls k => g46Main (g76 m) (g82 m) ls k)
theorem g46Ok (m : Nat) : RowOk Go.Proofs.Try.prog 46 (fun {α} => rowK g46tp g46bp (g46K (g46 (α := α) m))) := row_of (g46Fn m)

/-! ### g83: impl.negated -/
def g83l0b {α : Type}   (m717 : Nat) (m718 : Nat) (m719 : Nat) (m720 : Nat) (m721 : Nat) (m722 : Nat) (v723 : Int) (m725 : Nat) (a726 : List Int) (m727 : Nat) (k734 : (List Int) → Option α) (r735 : Int → (List Int) → Option α) (v724 : Int) (a728 : List Int) : Option α :=
  cond (decide (v724 < v723))
   (
    if 0 ≤ v724 ∧ v724 < (m721 : Nat) then
      if (m720 + v724.toNat) < m725 then
        if 0 ≤ v724 ∧ v724 < (m718 : Nat) then
          if (m717 + v724.toNat) < m727 then
            r735 (IntKind.wrap .i64 (v724 + (1 : Int))) (List.set a728 (m717 + v724.toNat) (IntKind.wrap .i8 (0 - (List.getD a726 (m720 + v724.toNat) 0))))
          else
            none
        else
          none
      else
        none
    else
      none)
   (
    k734 a728)
def g83l0 {α : Type}   (m717 : Nat) (m718 : Nat) (m719 : Nat) (m720 : Nat) (m721 : Nat) (m722 : Nat) (v723 : Int) (m725 : Nat) (a726 : List Int) (m727 : Nat) (k734 : (List Int) → Option α) : Nat → Int → (List Int) → Option α
  | 0 => fun _ _ => none
  | m + 1 => fun v724 a728 => g83l0b m717 m718 m719 m720 m721 m722 v723 m725 a726 m727 k734 (g83l0 m717 m718 m719 m720 m721 m722 v723 m725 a726 m727 k734 m) v724 a728
def g83l0M {α : Type} (m : Nat) : Nat → Nat → Nat → Nat → Nat → Nat → Int → Nat → (List Int) → Nat → ((List Int) → Option α) → Int → (List Int) → Option α :=
  fun m717 m718 m719 m720 m721 m722 v723 m725 a726 m727 k734 v724 a728 => g83l0 m717 m718 m719 m720 m721 m722 v723 m725 a726 m727 k734 m v724 a728
def g83l0D : LoopD := { n := 23, low := [0], sl := [3, 9, 10, 11], bl := [0, 1000001], tp := [(.vl (.sv (.slc 1000001 0 1))), (.vl (.sv (.slc 0 0 1))), (.vl (.sv (.int .i64))), (.vl (.sv (.int .i64)))], bp := [(false, [(.seqv (.int .i8))]), (true, [(.seqv (.int .i8))])], xs := [(2, [3])] }
def g83l0K {α : Type} (L : Nat → Nat → Nat → Nat → Nat → Nat → Int → Nat → (List Int) → Nat → ((List Int) → Option α) → Int → (List Int) → Option α) (ls : List Lf) (k : Ex → St → Option α) : Option α :=
  L (lf ls 0).nat (lf ls 1).nat (lf ls 2).nat (lf ls 3).nat (lf ls 4).nat (lf ls 5).nat (lf ls 6).int (lf ls 8).nat ((lf ls 9).lst (.int .i8)) (lf ls 10).nat
    (fun y6 => k .normal (mkSt 23 [3] [(.vl (.sv (.slc 1000001 0 1 (lf ls 0).nat (lf ls 1).nat (lf ls 2).nat)))] [0, 1000001] [(false, [(.seq (.int .i8) (lf ls 8).nat ((lf ls 9).lst (.int .i8)))]), (true, [(.seq (.int .i8) (lf ls 10).nat y6)])]))
    (lf ls 7).int ((lf ls 11).lst (.int .i8))
def g83b {α : Type}  (L_g83l0 : {α : Type} → Nat → Nat → Nat → Nat → Nat → Nat → Int → Nat → (List Int) → Nat → ((List Int) → Option α) → Int → (List Int) → Option α) (m711 : Nat) (m712 : Nat) (m713 : Nat) (m714 : Nat) (u715 : List Int) (k737 : (List Int) → Option α) : Option α :=
  if ((m712 : Nat) : Int) = ((m712 : Nat) : Int) ∧ 0 ≤ ((m712 : Nat) : Int) ∧ ((m712 : Nat) : Int) ≤ 1048576 then
    L_g83l0 0 m712 m712 m711 m712 m713 ((m712 : Nat) : Int) m714 u715 m712
      (fun l736 =>
        k737 l736)
      (0 : Int) (List.replicate m712 (0 : Int))
  else
    none
def g83 {α : Type} (m : Nat) : Nat → Nat → Nat → Nat → (List Int) → ((List Int) → Option α) → Option α :=
  g83b (g83l0M m)
def g83tp : List TP := [(.vl (.sv (.slc 0 0 1)))]
def g83bp : List BP := [(false, [(.seqv (.int .i8))])]
def g83K {α : Type} (G : Nat → Nat → Nat → Nat → (List Int) → ((List Int) → Option α) → Option α) (ls : List Lf) (k : TV → List (List Seg) → List (List Seg) → Option α) : Option α :=
  G (lf ls 0).nat (lf ls 1).nat (lf ls 2).nat (lf ls 3).nat ((lf ls 4).lst (.int .i8))
    (fun y6 => k (.vl (.sv (.slc 1 0 1 0 (lf ls 1).nat (lf ls 1).nat))) [[(.seq (.int .i8) (lf ls 3).nat ((lf ls 4).lst (.int .i8)))]] [[(.seq (.int .i8) (lf ls 1).nat y6)]])
def g83hd  (L_g83l0 : {α : Type} → Nat → Nat → Nat → Nat → Nat → Nat → Int → Nat → (List Int) → Nat → ((List Int) → Option α) → Int → (List Int) → Option α) : Hd where
  call := fun f args Bs k => none
  loop := fun id st k => cond (Nat.beq id 0) (loopH g83l0D (g83l0K L_g83l0) st k) (none)
  ro := fun f => []
def g83h (m : Nat) : Hd := g83hd (g83l0M m)
theorem g83l0Step  (L_g83l0 : {α : Type} → Nat → Nat → Nat → Nat → Nat → Nat → Int → Nat → (List Int) → Nat → ((List Int) → Option α) → Int → (List Int) → Option α) {α : Type} (L : Nat → Nat → Nat → Nat → Nat → Nat → Int → Nat → (List Int) → Nat → ((List Int) → Option α) → Int → (List Int) → Option α) (ls : List Lf) (k : Ex → St → Option α) :
    g83l0K (fun m717 m718 m719 m720 m721 m722 v723 m725 a726 m727 k734 v724 a728 => g83l0b m717 m718 m719 m720 m721 m722 v723 m725 a726 m727 k734 (L m717 m718 m719 m720 m721 m722 v723 m725 a726 m727 k734) v724 a728) ls k = ev tab (g83hd L_g83l0) (bodyAt Go.Proofs.Try.f83 0) (atHead g83l0D ls) (loopK g83l0D 0 (loopH g83l0D (g83l0K L)) k) := by kernel_rfl
theorem g83Main  (L_g83l0 : {α : Type} → Nat → Nat → Nat → Nat → Nat → Nat → Int → Nat → (List Int) → Nat → ((List Int) → Option α) → Int → (List Int) → Option α) {α : Type} (ls : List Lf) (k : TV → List (List Seg) → List (List Seg) → Option α) :
    g83K (g83b L_g83l0) ls k = evFun tab (g83hd L_g83l0) Go.Proofs.Try.f83 (fillT g83tp ls).1 (fillB g83bp (fillT g83tp ls).2).1 k := by kernel_rfl
theorem g83Calls (m : Nat) : (g83h m).CallsOk Go.Proofs.Try.prog := cok_nil
theorem g83l0Ok (m : Nat) (α : Type) (st : St) (k : Ex → St → Option α) (r : α) (h : (g83h m).loop 0 st k = some r) :
    ∃ e st', k e st' = some r ∧ CodeS Go.Proofs.Try.prog (.block 0 (.loop (bodyAt Go.Proofs.Try.f83 0))) st e st' :=
  loop_ok (tab := tab) (h := g83h m) (F := fun n ls k => g83l0K (fun m717 m718 m719 m720 m721 m722 v723 m725 a726 m727 k734 v724 a728 => g83l0 m717 m718 m719 m720 m721 m722 v723 m725 a726 m727 k734 n v724 a728) ls k) tabOk (g83Calls m) mixed (loopsOk_of _ (fun p hp => by rw [show loopsOf (bodyAt Go.Proofs.Try.f83 0) = [] by kernel_rfl] at hp; cases hp))
    (fun _ _ => rfl) (fun n ls k => g83l0Step (g83l0M m) (fun m717 m718 m719 m720 m721 m722 v723 m725 a726 m727 k734 => g83l0 m717 m718 m719 m720 m721 m722 v723 m725 a726 m727 k734 n) ls k) (n := m) h
theorem g83Fn (m : Nat) : FnOk Go.Proofs.Try.prog 83 g83tp g83bp (fun {α} => g83K (g83 (α := α) m)) :=
  fn_ok (tab := tab) (h := g83h m) (fn := Go.Proofs.Try.f83) (F := fun {α} => g83K (g83 (α := α) m)) tabOk (g83Calls m) mixed (by kernel_rfl) (by kernel_rfl) (fun c hc => by
    rw [bodyOf_some hc]
    exact loopsOk_of _ (fun p hp => by
    rw [show loopsOf (bodyOf Go.Proofs.Try.f83) = [(0, bodyAt Go.Proofs.Try.f83 0)] by kernel_rfl] at hp
    simp only [List.mem_cons, List.not_mem_nil, or_false] at hp
    rcases hp with rfl
    exact g83l0Ok m))
    (fun α ls k => g83Main (g83l0M m) ls k)
theorem g83Ok (m : Nat) : RowOk Go.Proofs.Try.prog 83 (fun {α} => rowK g83tp g83bp (g83K (g83 (α := α) m))) := row_of (g83Fn m)

/-! ### g47: impl.NegStream -/
def g47b {α : Type} (G_g41 : {α : Type} → Nat → Nat → Nat → Nat → Nat → Nat → Nat → (List Int) → Nat → (List Int) → (Bool → Option α) → Option α) (G_g83 : {α : Type} → Nat → Nat → Nat → Nat → (List Int) → ((List Int) → Option α) → Option α)  (m699 : Nat) (m700 : Nat) (m701 : Nat) (m702 : Nat) (m703 : Nat) (m704 : Nat) (m705 : Nat) (u706 : List Int) (m707 : Nat) (u708 : List Int) (k740 : Option α) (k741 : (List Int) → (List Int) → Option α) : Option α :=
  G_g41 m699 m700 m701 m702 m703 m704 m705 u706 m707 u708
    (fun b709 =>
      cond (!b709)
       (
        k740)
       (
        G_g83 m699 m700 m701 m705 u706
          (fun l738 =>
            G_g83 m702 m703 m704 m707 u708
              (fun l739 =>
                k741 l738 l739))))
def g47 {α : Type} (m : Nat) : Nat → Nat → Nat → Nat → Nat → Nat → Nat → (List Int) → Nat → (List Int) → (Option α) → ((List Int) → (List Int) → Option α) → Option α :=
  g47b (g41 m) (g83 m)
def g47tp : List TP := [(.vl (.agg [(.one (.slc 0 0 1)), (.one (.slc 1 0 1))]))]
def g47bp : List BP := [(false, [(.seqv (.int .i8))]), (false, [(.seqv (.int .i8))])]
def g47K {α : Type} (G : Nat → Nat → Nat → Nat → Nat → Nat → Nat → (List Int) → Nat → (List Int) → (Option α) → ((List Int) → (List Int) → Option α) → Option α) (ls : List Lf) (k : TV → List (List Seg) → List (List Seg) → Option α) : Option α :=
  G (lf ls 0).nat (lf ls 1).nat (lf ls 2).nat (lf ls 3).nat (lf ls 4).nat (lf ls 5).nat (lf ls 6).nat ((lf ls 7).lst (.int .i8)) (lf ls 8).nat ((lf ls 9).lst (.int .i8))
    (k (.tup [(.agg [(.one .nils), (.one .nils)]), (.sv (.int .i64 (1 : Int)))]) [[(.seq (.int .i8) (lf ls 6).nat ((lf ls 7).lst (.int .i8)))], [(.seq (.int .i8) (lf ls 8).nat ((lf ls 9).lst (.int .i8)))]] [])
    (fun y12 y14 => k (.tup [(.agg [(.one (.slc 2 0 1 0 (lf ls 1).nat (lf ls 1).nat)), (.one (.slc 3 0 1 0 (lf ls 4).nat (lf ls 4).nat))]), (.sv (.int .i64 (0 : Int)))]) [[(.seq (.int .i8) (lf ls 6).nat ((lf ls 7).lst (.int .i8)))], [(.seq (.int .i8) (lf ls 8).nat ((lf ls 9).lst (.int .i8)))]] [[(.seq (.int .i8) (lf ls 1).nat y12)], [(.seq (.int .i8) (lf ls 4).nat y14)]])
def g47hd (G_g41 : {α : Type} → Nat → Nat → Nat → Nat → Nat → Nat → Nat → (List Int) → Nat → (List Int) → (Bool → Option α) → Option α) (G_g83 : {α : Type} → Nat → Nat → Nat → Nat → (List Int) → ((List Int) → Option α) → Option α)  : Hd where
  call := fun f args Bs k => cond (Nat.beq f 41) (rowK g41tp g41bp (g41K G_g41) args Bs k) (cond (Nat.beq f 83) (rowK g83tp g83bp (g83K G_g83) args Bs k) (none))
  loop := fun id st k => none
  ro := fun f => cond (Nat.beq f 41) [0, 1] (cond (Nat.beq f 83) [0] ([]))
def g47h (m : Nat) : Hd := g47hd (g41 m) (g83 m)
theorem g47Main (G_g41 : {α : Type} → Nat → Nat → Nat → Nat → Nat → Nat → Nat → (List Int) → Nat → (List Int) → (Bool → Option α) → Option α) (G_g83 : {α : Type} → Nat → Nat → Nat → Nat → (List Int) → ((List Int) → Option α) → Option α)  {α : Type} (ls : List Lf) (k : TV → List (List Seg) → List (List Seg) → Option α) :
    g47K (g47b G_g41 G_g83) ls k = evFun tab (g47hd G_g41 G_g83) Go.Proofs.Try.f47 (fillT g47tp ls).1 (fillB g47bp (fillT g47tp ls).2).1 k := by kernel_rfl
theorem g47Calls (m : Nat) : (g47h m).CallsOk Go.Proofs.Try.prog := (cok_cons (g41Ok m) (cok_cons (g83Ok m) cok_nil))
theorem g47Fn (m : Nat) : FnOk Go.Proofs.Try.prog 47 g47tp g47bp (fun {α} => g47K (g47 (α := α) m)) :=
  fn_ok (tab := tab) (h := g47h m) (fn := Go.Proofs.Try.f47) (F := fun {α} => g47K (g47 (α := α) m)) tabOk (g47Calls m) mixed (by kernel_rfl) (by kernel_rfl) (fun c hc => by
    rw [bodyOf_some hc]
    exact loopsOk_of _ (fun p hp => by rw [show loopsOf (bodyOf Go.Proofs.Try.f47) = [] by kernel_rfl] at hp; cases hp))
    (fun α ls k => g47Main (g41 m) (g83 m) ls k)
theorem g47Ok (m : Nat) : RowOk Go.Proofs.Try.prog 47 (fun {α} => rowK g47tp g47bp (g47K (g47 (α := α) m))) := row_of (g47Fn m)

/-! ### g54v1: laws.eqInt8S -/
def g54v1l0b {α : Type}   (v742 : Int) (k744 : Option α) (r745 : Option α)  : Option α :=
  cond (decide (v742 < (0 : Int)))
   (
    none)
   (
    k744)
def g54v1l0 {α : Type}   (v742 : Int) (k744 : Option α) : Nat → Option α
  | 0 => none
  | m + 1 => g54v1l0b v742 k744 (g54v1l0 v742 k744 m)
def g54v1l0M {α : Type} (m : Nat) : Int → (Option α) → Option α :=
  fun v742 k744  => g54v1l0 v742 k744 m 
def g54v1l0D : LoopD := { n := 26, low := [], sl := [0, 1, 5], bl := [], tp := [(.vl (.sv .nils)), (.vl (.sv .nils)), (.vl (.sv (.int .i64)))], bp := [], xs := [(2, [])] }
def g54v1l0K {α : Type} (L : Int → (Option α) → Option α) (ls : List Lf) (k : Ex → St → Option α) : Option α :=
  L (lf ls 0).int
    (k .normal (mkSt 26 [] [] [] []))
    
def g54v1b {α : Type}  (L_g54v1l0 : {α : Type} → Int → (Option α) → Option α)  (k746 : Option α) : Option α :=
  L_g54v1l0 (0 : Int)
    (
      k746)
def g54v1 {α : Type} (m : Nat) : (Option α) → Option α :=
  g54v1b (g54v1l0M m)
def g54v1tp : List TP := [(.vl (.sv .nils)), (.vl (.sv .nils))]
def g54v1bp : List BP := []
def g54v1K {α : Type} (G : (Option α) → Option α) (ls : List Lf) (k : TV → List (List Seg) → List (List Seg) → Option α) : Option α :=
  G 
    (k (.vl (.sv (.bool true))) [] [])
def g54v1hd  (L_g54v1l0 : {α : Type} → Int → (Option α) → Option α) : Hd where
  call := fun f args Bs k => none
  loop := fun id st k => cond (Nat.beq id 0) (loopH g54v1l0D (g54v1l0K L_g54v1l0) st k) (none)
  ro := fun f => []
def g54v1h (m : Nat) : Hd := g54v1hd (g54v1l0M m)
theorem g54v1l0Step  (L_g54v1l0 : {α : Type} → Int → (Option α) → Option α) {α : Type} (L : Int → (Option α) → Option α) (ls : List Lf) (k : Ex → St → Option α) :
    g54v1l0K (fun v742 k744 => g54v1l0b v742 k744 (L v742 k744) ) ls k = ev tab (g54v1hd L_g54v1l0) (bodyAt Go.Proofs.Try.f54 0) (atHead g54v1l0D ls) (loopK g54v1l0D 0 (loopH g54v1l0D (g54v1l0K L)) k) := by kernel_rfl
theorem g54v1Main  (L_g54v1l0 : {α : Type} → Int → (Option α) → Option α) {α : Type} (ls : List Lf) (k : TV → List (List Seg) → List (List Seg) → Option α) :
    g54v1K (g54v1b L_g54v1l0) ls k = evFun tab (g54v1hd L_g54v1l0) Go.Proofs.Try.f54 (fillT g54v1tp ls).1 (fillB g54v1bp (fillT g54v1tp ls).2).1 k := by kernel_rfl
theorem g54v1Calls (m : Nat) : (g54v1h m).CallsOk Go.Proofs.Try.prog := cok_nil
theorem g54v1l0Ok (m : Nat) (α : Type) (st : St) (k : Ex → St → Option α) (r : α) (h : (g54v1h m).loop 0 st k = some r) :
    ∃ e st', k e st' = some r ∧ CodeS Go.Proofs.Try.prog (.block 0 (.loop (bodyAt Go.Proofs.Try.f54 0))) st e st' :=
  loop_ok (tab := tab) (h := g54v1h m) (F := fun n ls k => g54v1l0K (fun v742 k744 => g54v1l0 v742 k744 n ) ls k) tabOk (g54v1Calls m) mixed (loopsOk_of _ (fun p hp => by rw [show loopsOf (bodyAt Go.Proofs.Try.f54 0) = [] by kernel_rfl] at hp; cases hp))
    (fun _ _ => rfl) (fun n ls k => g54v1l0Step (g54v1l0M m) (fun v742 k744 => g54v1l0 v742 k744 n) ls k) (n := m) h
theorem g54v1Fn (m : Nat) : FnOk Go.Proofs.Try.prog 54 g54v1tp g54v1bp (fun {α} => g54v1K (g54v1 (α := α) m)) :=
  fn_ok (tab := tab) (h := g54v1h m) (fn := Go.Proofs.Try.f54) (F := fun {α} => g54v1K (g54v1 (α := α) m)) tabOk (g54v1Calls m) mixed (by kernel_rfl) (by kernel_rfl) (fun c hc => by
    rw [bodyOf_some hc]
    exact loopsOk_of _ (fun p hp => by
    rw [show loopsOf (bodyOf Go.Proofs.Try.f54) = [(0, bodyAt Go.Proofs.Try.f54 0)] by kernel_rfl] at hp
    simp only [List.mem_cons, List.not_mem_nil, or_false] at hp
    rcases hp with rfl
    exact g54v1l0Ok m))
    (fun α ls k => g54v1Main (g54v1l0M m) ls k)
theorem g54v1Ok (m : Nat) : RowOk Go.Proofs.Try.prog 54 (fun {α} => rowK g54v1tp g54v1bp (g54v1K (g54v1 (α := α) m))) := row_of (g54v1Fn m)

/-! ### g39v1: laws.eqStream -/
def g39v1b {α : Type} (G_g54v1 : {α : Type} → (Option α) → Option α)   (k747 : Option α) : Option α :=
  G_g54v1
    (
      G_g54v1
        (
          k747))
def g39v1 {α : Type} (m : Nat) : (Option α) → Option α :=
  g39v1b (g54v1 m)
def g39v1tp : List TP := [(.vl (.agg [(.one .nils), (.one .nils)])), (.vl (.agg [(.one .nils), (.one .nils)]))]
def g39v1bp : List BP := []
def g39v1K {α : Type} (G : (Option α) → Option α) (ls : List Lf) (k : TV → List (List Seg) → List (List Seg) → Option α) : Option α :=
  G 
    (k (.vl (.sv (.bool true))) [] [])
def g39v1hd (G_g54v1 : {α : Type} → (Option α) → Option α)  : Hd where
  call := fun f args Bs k => cond (Nat.beq f 54) (rowK g54v1tp g54v1bp (g54v1K G_g54v1) args Bs k) (none)
  loop := fun id st k => none
  ro := fun f => []
def g39v1h (m : Nat) : Hd := g39v1hd (g54v1 m)
theorem g39v1Main (G_g54v1 : {α : Type} → (Option α) → Option α)  {α : Type} (ls : List Lf) (k : TV → List (List Seg) → List (List Seg) → Option α) :
    g39v1K (g39v1b G_g54v1) ls k = evFun tab (g39v1hd G_g54v1) Go.Proofs.Try.f39 (fillT g39v1tp ls).1 (fillB g39v1bp (fillT g39v1tp ls).2).1 k := by kernel_rfl
theorem g39v1Calls (m : Nat) : (g39v1h m).CallsOk Go.Proofs.Try.prog := (cok_cons (g54v1Ok m) cok_nil)
theorem g39v1Fn (m : Nat) : FnOk Go.Proofs.Try.prog 39 g39v1tp g39v1bp (fun {α} => g39v1K (g39v1 (α := α) m)) :=
  fn_ok (tab := tab) (h := g39v1h m) (fn := Go.Proofs.Try.f39) (F := fun {α} => g39v1K (g39v1 (α := α) m)) tabOk (g39v1Calls m) mixed (by kernel_rfl) (by kernel_rfl) (fun c hc => by
    rw [bodyOf_some hc]
    exact loopsOk_of _ (fun p hp => by rw [show loopsOf (bodyOf Go.Proofs.Try.f39) = [] by kernel_rfl] at hp; cases hp))
    (fun α ls k => g39v1Main (g54v1 m) ls k)
theorem g39v1Ok (m : Nat) : RowOk Go.Proofs.Try.prog 39 (fun {α} => rowK g39v1tp g39v1bp (g39v1K (g39v1 (α := α) m))) := row_of (g39v1Fn m)

/-! ### g55: laws.markInt8S -/
def g55l0b {α : Type}   (m769 : Nat) (m770 : Nat) (m771 : Nat) (m774 : Nat) (k781 : Int → (List Int) → Option α) (r782 : Int → Int → (List Int) → Option α) (v772 : Int) (v773 : Int) (a775 : List Int) : Option α :=
  cond (decide (v773 < ((m770 : Nat) : Int)))
   (
    if 0 ≤ v773 ∧ v773 < (m770 : Nat) then
      if (m769 + v773.toNat) < m774 then
        r782 (IntKind.wrap .i64 (v772 + (1 : Int))) (IntKind.wrap .i64 (v773 + (1 : Int))) (List.set a775 (m769 + v773.toNat) (IntKind.wrap .i8 v772))
      else
        none
    else
      none)
   (
    k781 v772 a775)
def g55l0 {α : Type}   (m769 : Nat) (m770 : Nat) (m771 : Nat) (m774 : Nat) (k781 : Int → (List Int) → Option α) : Nat → Int → Int → (List Int) → Option α
  | 0 => fun _ _ _ => none
  | m + 1 => fun v772 v773 a775 => g55l0b m769 m770 m771 m774 k781 (g55l0 m769 m770 m771 m774 k781 m) v772 v773 a775
def g55l0M {α : Type} (m : Nat) : Nat → Nat → Nat → Nat → (Int → (List Int) → Option α) → Int → Int → (List Int) → Option α :=
  fun m769 m770 m771 m774 k781 v772 v773 a775 => g55l0 m769 m770 m771 m774 k781 m v772 v773 a775
def g55l0D : LoopD := { n := 20, low := [0], sl := [0, 1, 5], bl := [0], tp := [(.vl (.sv (.slc 0 0 1))), (.vl (.sv (.int .i64))), (.vl (.sv (.int .i64)))], bp := [(true, [(.seqv (.int .i8))])], xs := [(2, [1])] }
def g55l0K {α : Type} (L : Nat → Nat → Nat → Nat → (Int → (List Int) → Option α) → Int → Int → (List Int) → Option α) (ls : List Lf) (k : Ex → St → Option α) : Option α :=
  L (lf ls 0).nat (lf ls 1).nat (lf ls 2).nat (lf ls 5).nat
    (fun y0 y2 => k .normal (mkSt 20 [1] [(.vl (.sv (.int .i64 y0)))] [0] [(true, [(.seq (.int .i8) (lf ls 5).nat y2)])]))
    (lf ls 3).int (lf ls 4).int ((lf ls 6).lst (.int .i8))
def g55b {α : Type}  (L_g55l0 : {α : Type} → Nat → Nat → Nat → Nat → (Int → (List Int) → Option α) → Int → Int → (List Int) → Option α) (m763 : Nat) (m764 : Nat) (m765 : Nat) (p766 : Int) (m767 : Nat) (u768 : List Int) (k785 : Int → (List Int) → Option α) : Option α :=
  L_g55l0 m763 m764 m765 m767
    (fun x783 l784 =>
      k785 x783 l784)
    p766 (0 : Int) u768
def g55 {α : Type} (m : Nat) : Nat → Nat → Nat → Int → Nat → (List Int) → (Int → (List Int) → Option α) → Option α :=
  g55b (g55l0M m)
def g55tp : List TP := [(.vl (.sv (.slc 0 0 1))), (.vl (.sv (.int .i64)))]
def g55bp : List BP := [(true, [(.seqv (.int .i8))])]
def g55K {α : Type} (G : Nat → Nat → Nat → Int → Nat → (List Int) → (Int → (List Int) → Option α) → Option α) (ls : List Lf) (k : TV → List (List Seg) → List (List Seg) → Option α) : Option α :=
  G (lf ls 0).nat (lf ls 1).nat (lf ls 2).nat (lf ls 3).int (lf ls 4).nat ((lf ls 5).lst (.int .i8))
    (fun y0 y2 => k (.vl (.sv (.int .i64 y0))) [[(.seq (.int .i8) (lf ls 4).nat y2)]] [])
def g55hd  (L_g55l0 : {α : Type} → Nat → Nat → Nat → Nat → (Int → (List Int) → Option α) → Int → Int → (List Int) → Option α) : Hd where
  call := fun f args Bs k => none
  loop := fun id st k => cond (Nat.beq id 0) (loopH g55l0D (g55l0K L_g55l0) st k) (none)
  ro := fun f => []
def g55h (m : Nat) : Hd := g55hd (g55l0M m)
theorem g55l0Step  (L_g55l0 : {α : Type} → Nat → Nat → Nat → Nat → (Int → (List Int) → Option α) → Int → Int → (List Int) → Option α) {α : Type} (L : Nat → Nat → Nat → Nat → (Int → (List Int) → Option α) → Int → Int → (List Int) → Option α) (ls : List Lf) (k : Ex → St → Option α) :
    g55l0K (fun m769 m770 m771 m774 k781 v772 v773 a775 => g55l0b m769 m770 m771 m774 k781 (L m769 m770 m771 m774 k781) v772 v773 a775) ls k = ev tab (g55hd L_g55l0) (bodyAt Go.Proofs.Try.f55 0) (atHead g55l0D ls) (loopK g55l0D 0 (loopH g55l0D (g55l0K L)) k) := by kernel_rfl
theorem g55Main  (L_g55l0 : {α : Type} → Nat → Nat → Nat → Nat → (Int → (List Int) → Option α) → Int → Int → (List Int) → Option α) {α : Type} (ls : List Lf) (k : TV → List (List Seg) → List (List Seg) → Option α) :
    g55K (g55b L_g55l0) ls k = evFun tab (g55hd L_g55l0) Go.Proofs.Try.f55 (fillT g55tp ls).1 (fillB g55bp (fillT g55tp ls).2).1 k := by kernel_rfl
theorem g55Calls (m : Nat) : (g55h m).CallsOk Go.Proofs.Try.prog := cok_nil
theorem g55l0Ok (m : Nat) (α : Type) (st : St) (k : Ex → St → Option α) (r : α) (h : (g55h m).loop 0 st k = some r) :
    ∃ e st', k e st' = some r ∧ CodeS Go.Proofs.Try.prog (.block 0 (.loop (bodyAt Go.Proofs.Try.f55 0))) st e st' :=
  loop_ok (tab := tab) (h := g55h m) (F := fun n ls k => g55l0K (fun m769 m770 m771 m774 k781 v772 v773 a775 => g55l0 m769 m770 m771 m774 k781 n v772 v773 a775) ls k) tabOk (g55Calls m) mixed (loopsOk_of _ (fun p hp => by rw [show loopsOf (bodyAt Go.Proofs.Try.f55 0) = [] by kernel_rfl] at hp; cases hp))
    (fun _ _ => rfl) (fun n ls k => g55l0Step (g55l0M m) (fun m769 m770 m771 m774 k781 => g55l0 m769 m770 m771 m774 k781 n) ls k) (n := m) h
theorem g55Fn (m : Nat) : FnOk Go.Proofs.Try.prog 55 g55tp g55bp (fun {α} => g55K (g55 (α := α) m)) :=
  fn_ok (tab := tab) (h := g55h m) (fn := Go.Proofs.Try.f55) (F := fun {α} => g55K (g55 (α := α) m)) tabOk (g55Calls m) mixed (by kernel_rfl) (by kernel_rfl) (fun c hc => by
    rw [bodyOf_some hc]
    exact loopsOk_of _ (fun p hp => by
    rw [show loopsOf (bodyOf Go.Proofs.Try.f55) = [(0, bodyAt Go.Proofs.Try.f55 0)] by kernel_rfl] at hp
    simp only [List.mem_cons, List.not_mem_nil, or_false] at hp
    rcases hp with rfl
    exact g55l0Ok m))
    (fun α ls k => g55Main (g55l0M m) ls k)
theorem g55Ok (m : Nat) : RowOk Go.Proofs.Try.prog 55 (fun {α} => rowK g55tp g55bp (g55K (g55 (α := α) m))) := row_of (g55Fn m)

/-! ### g48: laws.markStream -/
def g48b {α : Type} (G_g55 : {α : Type} → Nat → Nat → Nat → Int → Nat → (List Int) → (Int → (List Int) → Option α) → Option α)  (m752 : Nat) (m753 : Nat) (m754 : Nat) (m755 : Nat) (m756 : Nat) (m757 : Nat) (p758 : Int) (m759 : Nat) (u760 : List Int) (m761 : Nat) (u762 : List Int) (k790 : Int → (List Int) → (List Int) → Option α) : Option α :=
  G_g55 m752 m753 m754 p758 m759 u760
    (fun x786 l787 =>
      G_g55 m755 m756 m757 x786 m761 u762
        (fun x788 l789 =>
          k790 x788 l787 l789))
def g48 {α : Type} (m : Nat) : Nat → Nat → Nat → Nat → Nat → Nat → Int → Nat → (List Int) → Nat → (List Int) → (Int → (List Int) → (List Int) → Option α) → Option α :=
  g48b (g55 m)
def g48tp : List TP := [(.vl (.agg [(.one (.slc 0 0 1)), (.one (.slc 1 0 1))])), (.vl (.sv (.int .i64)))]
def g48bp : List BP := [(true, [(.seqv (.int .i8))]), (true, [(.seqv (.int .i8))])]
def g48K {α : Type} (G : Nat → Nat → Nat → Nat → Nat → Nat → Int → Nat → (List Int) → Nat → (List Int) → (Int → (List Int) → (List Int) → Option α) → Option α) (ls : List Lf) (k : TV → List (List Seg) → List (List Seg) → Option α) : Option α :=
  G (lf ls 0).nat (lf ls 1).nat (lf ls 2).nat (lf ls 3).nat (lf ls 4).nat (lf ls 5).nat (lf ls 6).int (lf ls 7).nat ((lf ls 8).lst (.int .i8)) (lf ls 9).nat ((lf ls 10).lst (.int .i8))
    (fun y0 y2 y4 => k (.vl (.sv (.int .i64 y0))) [[(.seq (.int .i8) (lf ls 7).nat y2)], [(.seq (.int .i8) (lf ls 9).nat y4)]] [])
def g48hd (G_g55 : {α : Type} → Nat → Nat → Nat → Int → Nat → (List Int) → (Int → (List Int) → Option α) → Option α)  : Hd where
  call := fun f args Bs k => cond (Nat.beq f 55) (rowK g55tp g55bp (g55K G_g55) args Bs k) (none)
  loop := fun id st k => none
  ro := fun f => []
def g48h (m : Nat) : Hd := g48hd (g55 m)
theorem g48Main (G_g55 : {α : Type} → Nat → Nat → Nat → Int → Nat → (List Int) → (Int → (List Int) → Option α) → Option α)  {α : Type} (ls : List Lf) (k : TV → List (List Seg) → List (List Seg) → Option α) :
    g48K (g48b G_g55) ls k = evFun tab (g48hd G_g55) Go.Proofs.Try.f48 (fillT g48tp ls).1 (fillB g48bp (fillT g48tp ls).2).1 k := by kernel_rfl
theorem g48Calls (m : Nat) : (g48h m).CallsOk Go.Proofs.Try.prog := (cok_cons (g55Ok m) cok_nil)
theorem g48Fn (m : Nat) : FnOk Go.Proofs.Try.prog 48 g48tp g48bp (fun {α} => g48K (g48 (α := α) m)) :=
  fn_ok (tab := tab) (h := g48h m) (fn := Go.Proofs.Try.f48) (F := fun {α} => g48K (g48 (α := α) m)) tabOk (g48Calls m) mixed (by kernel_rfl) (by kernel_rfl) (fun c hc => by
    rw [bodyOf_some hc]
    exact loopsOk_of _ (fun p hp => by rw [show loopsOf (bodyOf Go.Proofs.Try.f48) = [] by kernel_rfl] at hp; cases hp))
    (fun α ls k => g48Main (g55 m) ls k)
theorem g48Ok (m : Nat) : RowOk Go.Proofs.Try.prog 48 (fun {α} => rowK g48tp g48bp (g48K (g48 (α := α) m))) := row_of (g48Fn m)

/-! ### g55v1: laws.markInt8S -/
def g55v1l0b {α : Type}   (v797 : Int) (v798 : Int) (k801 : Option α) (r802 : Option α)  : Option α :=
  cond (decide (v798 < (0 : Int)))
   (
    none)
   (
    k801)
def g55v1l0 {α : Type}   (v797 : Int) (v798 : Int) (k801 : Option α) : Nat → Option α
  | 0 => none
  | m + 1 => g55v1l0b v797 v798 k801 (g55v1l0 v797 v798 k801 m)
def g55v1l0M {α : Type} (m : Nat) : Int → Int → (Option α) → Option α :=
  fun v797 v798 k801  => g55v1l0 v797 v798 k801 m 
def g55v1l0D : LoopD := { n := 20, low := [], sl := [0, 1, 5], bl := [], tp := [(.vl (.sv .nils)), (.vl (.sv (.int .i64))), (.vl (.sv (.int .i64)))], bp := [], xs := [(2, [1])] }
def g55v1l0K {α : Type} (L : Int → Int → (Option α) → Option α) (ls : List Lf) (k : Ex → St → Option α) : Option α :=
  L (lf ls 0).int (lf ls 1).int
    (k .normal (mkSt 20 [1] [(.vl (.sv (.int .i64 (lf ls 0).int)))] [] []))
    
def g55v1b {α : Type}  (L_g55v1l0 : {α : Type} → Int → Int → (Option α) → Option α) (p796 : Int) (k803 : Option α) : Option α :=
  L_g55v1l0 p796 (0 : Int)
    (
      k803)
def g55v1 {α : Type} (m : Nat) : Int → (Option α) → Option α :=
  g55v1b (g55v1l0M m)
def g55v1tp : List TP := [(.vl (.sv .nils)), (.vl (.sv (.int .i64)))]
def g55v1bp : List BP := []
def g55v1K {α : Type} (G : Int → (Option α) → Option α) (ls : List Lf) (k : TV → List (List Seg) → List (List Seg) → Option α) : Option α :=
  G (lf ls 0).int
    (k (.vl (.sv (.int .i64 (lf ls 0).int))) [] [])
def g55v1hd  (L_g55v1l0 : {α : Type} → Int → Int → (Option α) → Option α) : Hd where
  call := fun f args Bs k => none
  loop := fun id st k => cond (Nat.beq id 0) (loopH g55v1l0D (g55v1l0K L_g55v1l0) st k) (none)
  ro := fun f => []
def g55v1h (m : Nat) : Hd := g55v1hd (g55v1l0M m)
theorem g55v1l0Step  (L_g55v1l0 : {α : Type} → Int → Int → (Option α) → Option α) {α : Type} (L : Int → Int → (Option α) → Option α) (ls : List Lf) (k : Ex → St → Option α) :
    g55v1l0K (fun v797 v798 k801 => g55v1l0b v797 v798 k801 (L v797 v798 k801) ) ls k = ev tab (g55v1hd L_g55v1l0) (bodyAt Go.Proofs.Try.f55 0) (atHead g55v1l0D ls) (loopK g55v1l0D 0 (loopH g55v1l0D (g55v1l0K L)) k) := by kernel_rfl
theorem g55v1Main  (L_g55v1l0 : {α : Type} → Int → Int → (Option α) → Option α) {α : Type} (ls : List Lf) (k : TV → List (List Seg) → List (List Seg) → Option α) :
    g55v1K (g55v1b L_g55v1l0) ls k = evFun tab (g55v1hd L_g55v1l0) Go.Proofs.Try.f55 (fillT g55v1tp ls).1 (fillB g55v1bp (fillT g55v1tp ls).2).1 k := by kernel_rfl
theorem g55v1Calls (m : Nat) : (g55v1h m).CallsOk Go.Proofs.Try.prog := cok_nil
theorem g55v1l0Ok (m : Nat) (α : Type) (st : St) (k : Ex → St → Option α) (r : α) (h : (g55v1h m).loop 0 st k = some r) :
    ∃ e st', k e st' = some r ∧ CodeS Go.Proofs.Try.prog (.block 0 (.loop (bodyAt Go.Proofs.Try.f55 0))) st e st' :=
  loop_ok (tab := tab) (h := g55v1h m) (F := fun n ls k => g55v1l0K (fun v797 v798 k801 => g55v1l0 v797 v798 k801 n ) ls k) tabOk (g55v1Calls m) mixed (loopsOk_of _ (fun p hp => by rw [show loopsOf (bodyAt Go.Proofs.Try.f55 0) = [] by kernel_rfl] at hp; cases hp))
    (fun _ _ => rfl) (fun n ls k => g55v1l0Step (g55v1l0M m) (fun v797 v798 k801 => g55v1l0 v797 v798 k801 n) ls k) (n := m) h
theorem g55v1Fn (m : Nat) : FnOk Go.Proofs.Try.prog 55 g55v1tp g55v1bp (fun {α} => g55v1K (g55v1 (α := α) m)) :=
  fn_ok (tab := tab) (h := g55v1h m) (fn := Go.Proofs.Try.f55) (F := fun {α} => g55v1K (g55v1 (α := α) m)) tabOk (g55v1Calls m) mixed (by kernel_rfl) (by kernel_rfl) (fun c hc => by
    rw [bodyOf_some hc]
    exact loopsOk_of _ (fun p hp => by
    rw [show loopsOf (bodyOf Go.Proofs.Try.f55) = [(0, bodyAt Go.Proofs.Try.f55 0)] by kernel_rfl] at hp
    simp only [List.mem_cons, List.not_mem_nil, or_false] at hp
    rcases hp with rfl
    exact g55v1l0Ok m))
    (fun α ls k => g55v1Main (g55v1l0M m) ls k)
theorem g55v1Ok (m : Nat) : RowOk Go.Proofs.Try.prog 55 (fun {α} => rowK g55v1tp g55v1bp (g55v1K (g55v1 (α := α) m))) := row_of (g55v1Fn m)

/-! ### g48v1: laws.markStream -/
def g48v1b {α : Type} (G_g55v1 : {α : Type} → Int → (Option α) → Option α)  (p795 : Int) (k804 : Option α) : Option α :=
  G_g55v1 p795
    (
      G_g55v1 p795
        (
          k804))
def g48v1 {α : Type} (m : Nat) : Int → (Option α) → Option α :=
  g48v1b (g55v1 m)
def g48v1tp : List TP := [(.vl (.agg [(.one .nils), (.one .nils)])), (.vl (.sv (.int .i64)))]
def g48v1bp : List BP := []
def g48v1K {α : Type} (G : Int → (Option α) → Option α) (ls : List Lf) (k : TV → List (List Seg) → List (List Seg) → Option α) : Option α :=
  G (lf ls 0).int
    (k (.vl (.sv (.int .i64 (lf ls 0).int))) [] [])
def g48v1hd (G_g55v1 : {α : Type} → Int → (Option α) → Option α)  : Hd where
  call := fun f args Bs k => cond (Nat.beq f 55) (rowK g55v1tp g55v1bp (g55v1K G_g55v1) args Bs k) (none)
  loop := fun id st k => none
  ro := fun f => []
def g48v1h (m : Nat) : Hd := g48v1hd (g55v1 m)
theorem g48v1Main (G_g55v1 : {α : Type} → Int → (Option α) → Option α)  {α : Type} (ls : List Lf) (k : TV → List (List Seg) → List (List Seg) → Option α) :
    g48v1K (g48v1b G_g55v1) ls k = evFun tab (g48v1hd G_g55v1) Go.Proofs.Try.f48 (fillT g48v1tp ls).1 (fillB g48v1bp (fillT g48v1tp ls).2).1 k := by kernel_rfl
theorem g48v1Calls (m : Nat) : (g48v1h m).CallsOk Go.Proofs.Try.prog := (cok_cons (g55v1Ok m) cok_nil)
theorem g48v1Fn (m : Nat) : FnOk Go.Proofs.Try.prog 48 g48v1tp g48v1bp (fun {α} => g48v1K (g48v1 (α := α) m)) :=
  fn_ok (tab := tab) (h := g48v1h m) (fn := Go.Proofs.Try.f48) (F := fun {α} => g48v1K (g48v1 (α := α) m)) tabOk (g48v1Calls m) mixed (by kernel_rfl) (by kernel_rfl) (fun c hc => by
    rw [bodyOf_some hc]
    exact loopsOk_of _ (fun p hp => by rw [show loopsOf (bodyOf Go.Proofs.Try.f48) = [] by kernel_rfl] at hp; cases hp))
    (fun α ls k => g48v1Main (g55v1 m) ls k)
theorem g48v1Ok (m : Nat) : RowOk Go.Proofs.Try.prog 48 (fun {α} => rowK g48v1tp g48v1bp (g48v1K (g48v1 (α := α) m))) := row_of (g48v1Fn m)

/-! ### g56: laws.heldInt8S -/
def g56l0b {α : Type}   (v807 : Int) (v808 : Int) (k810 : Option α) (r811 : Option α)  : Option α :=
  cond (decide (v808 < (0 : Int)))
   (
    none)
   (
    k810)
def g56l0 {α : Type}   (v807 : Int) (v808 : Int) (k810 : Option α) : Nat → Option α
  | 0 => none
  | m + 1 => g56l0b v807 v808 k810 (g56l0 v807 v808 k810 m)
def g56l0M {α : Type} (m : Nat) : Int → Int → (Option α) → Option α :=
  fun v807 v808 k810  => g56l0 v807 v808 k810 m 
def g56l0D : LoopD := { n := 22, low := [], sl := [0, 1, 5], bl := [], tp := [(.vl (.sv .nils)), (.vl (.sv (.int .i64))), (.vl (.sv (.int .i64)))], bp := [], xs := [(2, [1])] }
def g56l0K {α : Type} (L : Int → Int → (Option α) → Option α) (ls : List Lf) (k : Ex → St → Option α) : Option α :=
  L (lf ls 0).int (lf ls 1).int
    (k .normal (mkSt 22 [1] [(.vl (.sv (.int .i64 (lf ls 0).int)))] [] []))
    
def g56b {α : Type}  (L_g56l0 : {α : Type} → Int → Int → (Option α) → Option α) (p806 : Int) (k812 : Option α) : Option α :=
  L_g56l0 p806 (0 : Int)
    (
      k812)
def g56 {α : Type} (m : Nat) : Int → (Option α) → Option α :=
  g56b (g56l0M m)
def g56tp : List TP := [(.vl (.sv .nils)), (.vl (.sv (.int .i64)))]
def g56bp : List BP := []
def g56K {α : Type} (G : Int → (Option α) → Option α) (ls : List Lf) (k : TV → List (List Seg) → List (List Seg) → Option α) : Option α :=
  G (lf ls 0).int
    (k (.vl (.sv (.int .i64 (lf ls 0).int))) [] [])
def g56hd  (L_g56l0 : {α : Type} → Int → Int → (Option α) → Option α) : Hd where
  call := fun f args Bs k => none
  loop := fun id st k => cond (Nat.beq id 0) (loopH g56l0D (g56l0K L_g56l0) st k) (none)
  ro := fun f => []
def g56h (m : Nat) : Hd := g56hd (g56l0M m)
theorem g56l0Step  (L_g56l0 : {α : Type} → Int → Int → (Option α) → Option α) {α : Type} (L : Int → Int → (Option α) → Option α) (ls : List Lf) (k : Ex → St → Option α) :
    g56l0K (fun v807 v808 k810 => g56l0b v807 v808 k810 (L v807 v808 k810) ) ls k = ev tab (g56hd L_g56l0) (bodyAt Go.Proofs.Try.f56 0) (atHead g56l0D ls) (loopK g56l0D 0 (loopH g56l0D (g56l0K L)) k) := by kernel_rfl
theorem g56Main  (L_g56l0 : {α : Type} → Int → Int → (Option α) → Option α) {α : Type} (ls : List Lf) (k : TV → List (List Seg) → List (List Seg) → Option α) :
    g56K (g56b L_g56l0) ls k = evFun tab (g56hd L_g56l0) Go.Proofs.Try.f56 (fillT g56tp ls).1 (fillB g56bp (fillT g56tp ls).2).1 k := by kernel_rfl
theorem g56Calls (m : Nat) : (g56h m).CallsOk Go.Proofs.Try.prog := cok_nil
theorem g56l0Ok (m : Nat) (α : Type) (st : St) (k : Ex → St → Option α) (r : α) (h : (g56h m).loop 0 st k = some r) :
    ∃ e st', k e st' = some r ∧ CodeS Go.Proofs.Try.prog (.block 0 (.loop (bodyAt Go.Proofs.Try.f56 0))) st e st' :=
  loop_ok (tab := tab) (h := g56h m) (F := fun n ls k => g56l0K (fun v807 v808 k810 => g56l0 v807 v808 k810 n ) ls k) tabOk (g56Calls m) mixed (loopsOk_of _ (fun p hp => by rw [show loopsOf (bodyAt Go.Proofs.Try.f56 0) = [] by kernel_rfl] at hp; cases hp))
    (fun _ _ => rfl) (fun n ls k => g56l0Step (g56l0M m) (fun v807 v808 k810 => g56l0 v807 v808 k810 n) ls k) (n := m) h
theorem g56Fn (m : Nat) : FnOk Go.Proofs.Try.prog 56 g56tp g56bp (fun {α} => g56K (g56 (α := α) m)) :=
  fn_ok (tab := tab) (h := g56h m) (fn := Go.Proofs.Try.f56) (F := fun {α} => g56K (g56 (α := α) m)) tabOk (g56Calls m) mixed (by kernel_rfl) (by kernel_rfl) (fun c hc => by
    rw [bodyOf_some hc]
    exact loopsOk_of _ (fun p hp => by
    rw [show loopsOf (bodyOf Go.Proofs.Try.f56) = [(0, bodyAt Go.Proofs.Try.f56 0)] by kernel_rfl] at hp
    simp only [List.mem_cons, List.not_mem_nil, or_false] at hp
    rcases hp with rfl
    exact g56l0Ok m))
    (fun α ls k => g56Main (g56l0M m) ls k)
theorem g56Ok (m : Nat) : RowOk Go.Proofs.Try.prog 56 (fun {α} => rowK g56tp g56bp (g56K (g56 (α := α) m))) := row_of (g56Fn m)
end Go.Proofs.Ytbpljilgekneoaa.Sx
