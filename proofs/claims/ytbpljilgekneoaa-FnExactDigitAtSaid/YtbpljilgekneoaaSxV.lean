/- Functions. Printed by our own sx.py. -/
import Derived.Test.YtbpljilgekneoaaSxT
namespace Go.Proofs.Ytbpljilgekneoaa.Sx
open Go
set_option linter.unusedVariables false
set_option maxRecDepth 100000
/-! ### g72: laws.szInt8S -/
def g72b {α : Type}   (m32 : Nat) (m33 : Nat) (m34 : Nat) (p35 : Int) (m36 : Nat) (u37 : List Int) (k40 : Int → Option α) : Option α :=
  let x38 : Int := IntKind.wrap .i64 (p35 - ((m33 : Nat) : Int))
  cond (decide (x38 < (0 : Int)))
   (
    k40 (-1 : Int))
   (
    k40 x38)
def g72 {α : Type} (m : Nat) : Nat → Nat → Nat → Int → Nat → (List Int) → (Int → Option α) → Option α :=
  g72b
def g72tp : List TP := [(.vl (.sv (.slc 0 0 1))), (.vl (.sv (.int .i64)))]
def g72bp : List BP := [(false, [(.seqv (.int .i8))])]
def g72K {α : Type} (G : Nat → Nat → Nat → Int → Nat → (List Int) → (Int → Option α) → Option α) (ls : List Lf) (k : TV → List (List Seg) → List (List Seg) → Option α) : Option α :=
  G (lf ls 0).nat (lf ls 1).nat (lf ls 2).nat (lf ls 3).int (lf ls 4).nat ((lf ls 5).lst (.int .i8))
    (fun y0 => k (.vl (.sv (.int .i64 y0))) [[(.seq (.int .i8) (lf ls 4).nat ((lf ls 5).lst (.int .i8)))]] [])
def g72hd   : Hd where
  call := fun f args Bs k => none
  loop := fun id st k => none
  ro := fun f => []
def g72h (m : Nat) : Hd := g72hd
theorem g72Main   {α : Type} (ls : List Lf) (k : TV → List (List Seg) → List (List Seg) → Option α) :
    g72K (g72b) ls k = evFun tab (g72hd) Go.Proofs.Try.f72 (fillT g72tp ls).1 (fillB g72bp (fillT g72tp ls).2).1 k := by kernel_rfl
theorem g72Calls (m : Nat) : (g72h m).CallsOk Go.Proofs.Try.prog := cok_nil
theorem g72Fn (m : Nat) : FnOk Go.Proofs.Try.prog 72 g72tp g72bp (fun {α} => g72K (g72 (α := α) m)) :=
  fn_ok (tab := tab) (h := g72h m) (fn := Go.Proofs.Try.f72) (F := fun {α} => g72K (g72 (α := α) m)) tabOk (g72Calls m) mixed (by kernel_rfl) (by kernel_rfl) (fun c hc => by
    rw [bodyOf_some hc]
    exact loopsOk_of _ (fun p hp => by rw [show loopsOf (bodyOf Go.Proofs.Try.f72) = [] by kernel_rfl] at hp; cases hp))
    (fun α ls k => g72Main ls k)
theorem g72Ok (m : Nat) : RowOk Go.Proofs.Try.prog 72 (fun {α} => rowK g72tp g72bp (g72K (g72 (α := α) m))) := row_of (g72Fn m)

/-! ### g35: laws.szStream -/
def g35b {α : Type} (G_g72 : {α : Type} → Nat → Nat → Nat → Int → Nat → (List Int) → (Int → Option α) → Option α)  (m21 : Nat) (m22 : Nat) (m23 : Nat) (m24 : Nat) (m25 : Nat) (m26 : Nat) (p27 : Int) (m28 : Nat) (u29 : List Int) (m30 : Nat) (u31 : List Int) (k45 : Int → Option α) : Option α :=
  G_g72 m21 m22 m23 p27 m28 u29
    (fun x41 =>
      cond (decide (x41 < (0 : Int)))
       (
        k45 (-1 : Int))
       (
        G_g72 m24 m25 m26 x41 m30 u31
          (fun x43 =>
            cond (decide (x43 < (0 : Int)))
             (
              k45 (-1 : Int))
             (
              k45 x43))))
def g35 {α : Type} (m : Nat) : Nat → Nat → Nat → Nat → Nat → Nat → Int → Nat → (List Int) → Nat → (List Int) → (Int → Option α) → Option α :=
  g35b (g72 m)
def g35tp : List TP := [(.vl (.agg [(.one (.slc 0 0 1)), (.one (.slc 1 0 1))])), (.vl (.sv (.int .i64)))]
def g35bp : List BP := [(false, [(.seqv (.int .i8))]), (false, [(.seqv (.int .i8))])]
def g35K {α : Type} (G : Nat → Nat → Nat → Nat → Nat → Nat → Int → Nat → (List Int) → Nat → (List Int) → (Int → Option α) → Option α) (ls : List Lf) (k : TV → List (List Seg) → List (List Seg) → Option α) : Option α :=
  G (lf ls 0).nat (lf ls 1).nat (lf ls 2).nat (lf ls 3).nat (lf ls 4).nat (lf ls 5).nat (lf ls 6).int (lf ls 7).nat ((lf ls 8).lst (.int .i8)) (lf ls 9).nat ((lf ls 10).lst (.int .i8))
    (fun y0 => k (.vl (.sv (.int .i64 y0))) [[(.seq (.int .i8) (lf ls 7).nat ((lf ls 8).lst (.int .i8)))], [(.seq (.int .i8) (lf ls 9).nat ((lf ls 10).lst (.int .i8)))]] [])
def g35hd (G_g72 : {α : Type} → Nat → Nat → Nat → Int → Nat → (List Int) → (Int → Option α) → Option α)  : Hd where
  call := fun f args Bs k => cond (Nat.beq f 72) (rowK g72tp g72bp (g72K G_g72) args Bs k) (none)
  loop := fun id st k => none
  ro := fun f => cond (Nat.beq f 72) [0] ([])
def g35h (m : Nat) : Hd := g35hd (g72 m)
theorem g35Main (G_g72 : {α : Type} → Nat → Nat → Nat → Int → Nat → (List Int) → (Int → Option α) → Option α)  {α : Type} (ls : List Lf) (k : TV → List (List Seg) → List (List Seg) → Option α) :
    g35K (g35b G_g72) ls k = evFun tab (g35hd G_g72) Go.Proofs.Try.f35 (fillT g35tp ls).1 (fillB g35bp (fillT g35tp ls).2).1 k := by kernel_rfl
theorem g35Calls (m : Nat) : (g35h m).CallsOk Go.Proofs.Try.prog := (cok_cons (g72Ok m) cok_nil)
theorem g35Fn (m : Nat) : FnOk Go.Proofs.Try.prog 35 g35tp g35bp (fun {α} => g35K (g35 (α := α) m)) :=
  fn_ok (tab := tab) (h := g35h m) (fn := Go.Proofs.Try.f35) (F := fun {α} => g35K (g35 (α := α) m)) tabOk (g35Calls m) mixed (by kernel_rfl) (by kernel_rfl) (fun c hc => by
    rw [bodyOf_some hc]
    exact loopsOk_of _ (fun p hp => by rw [show loopsOf (bodyOf Go.Proofs.Try.f35) = [] by kernel_rfl] at hp; cases hp))
    (fun α ls k => g35Main (g72 m) ls k)
theorem g35Ok (m : Nat) : RowOk Go.Proofs.Try.prog 35 (fun {α} => rowK g35tp g35bp (g35K (g35 (α := α) m))) := row_of (g35Fn m)

/-! ### g74: laws.toInt8S -/
def g74l0b {α : Type}   (m66 : Nat) (m67 : Nat) (m68 : Nat) (m69 : Nat) (m70 : Nat) (m71 : Nat) (m73 : Nat) (a74 : List Int) (m75 : Nat) (k81 : (List Int) → Option α) (r82 : Int → (List Int) → Option α) (v72 : Int) (a76 : List Int) : Option α :=
  cond (decide (v72 < ((m67 : Nat) : Int)))
   (
    if 0 ≤ v72 ∧ v72 < (m67 : Nat) then
      if (m66 + v72.toNat) < m73 then
        if 0 ≤ v72 ∧ v72 < (m70 : Nat) then
          if (m69 + v72.toNat) < m75 then
            r82 (IntKind.wrap .i64 (v72 + (1 : Int))) (List.set a76 (m69 + v72.toNat) (List.getD a74 (m66 + v72.toNat) 0))
          else
            none
        else
          none
      else
        none
    else
      none)
   (
    k81 a76)
def g74l0 {α : Type}   (m66 : Nat) (m67 : Nat) (m68 : Nat) (m69 : Nat) (m70 : Nat) (m71 : Nat) (m73 : Nat) (a74 : List Int) (m75 : Nat) (k81 : (List Int) → Option α) : Nat → Int → (List Int) → Option α
  | 0 => fun _ _ => none
  | m + 1 => fun v72 a76 => g74l0b m66 m67 m68 m69 m70 m71 m73 a74 m75 k81 (g74l0 m66 m67 m68 m69 m70 m71 m73 a74 m75 k81 m) v72 a76
def g74l0M {α : Type} (m : Nat) : Nat → Nat → Nat → Nat → Nat → Nat → Nat → (List Int) → Nat → ((List Int) → Option α) → Int → (List Int) → Option α :=
  fun m66 m67 m68 m69 m70 m71 m73 a74 m75 k81 v72 a76 => g74l0 m66 m67 m68 m69 m70 m71 m73 a74 m75 k81 m v72 a76
def g74l0D : LoopD := { n := 22, sl := [0, 3, 4], bl := [0, 1007], tp := [(.vl (.sv (.slc 0 0 1))), (.vl (.sv (.slc 1007 0 1))), (.vl (.sv (.int .i64)))], bp := [(false, [(.seqv (.int .i8))]), (true, [(.seqv (.int .i8))])], xs := [(2, [3], [0, 1007])] }
def g74l0K {α : Type} (L : Nat → Nat → Nat → Nat → Nat → Nat → Nat → (List Int) → Nat → ((List Int) → Option α) → Int → (List Int) → Option α) (ls : List Lf) (k : Ex → St → Option α) : Option α :=
  L (lf ls 0).nat (lf ls 1).nat (lf ls 2).nat (lf ls 3).nat (lf ls 4).nat (lf ls 5).nat (lf ls 7).nat ((lf ls 8).lst (.int .i8)) (lf ls 9).nat
    (fun y6 => k .normal (mkSt 22 [3] [(.vl (.sv (.slc 1007 0 1 (lf ls 3).nat (lf ls 4).nat (lf ls 5).nat)))] [0, 1007] [(false, [(.seq (.int .i8) (lf ls 7).nat ((lf ls 8).lst (.int .i8)))]), (true, [(.seq (.int .i8) (lf ls 9).nat y6)])]))
    (lf ls 6).int ((lf ls 10).lst (.int .i8))
def g74b {α : Type}  (L_g74l0 : {α : Type} → Nat → Nat → Nat → Nat → Nat → Nat → Nat → (List Int) → Nat → ((List Int) → Option α) → Int → (List Int) → Option α) (m60 : Nat) (m61 : Nat) (m62 : Nat) (m63 : Nat) (u64 : List Int) (k84 : (List Int) → Option α) : Option α :=
  if ((m61 : Nat) : Int) = ((m61 : Nat) : Int) ∧ 0 ≤ ((m61 : Nat) : Int) ∧ ((m61 : Nat) : Int) ≤ 1048576 then
    L_g74l0 m60 m61 m62 0 m61 m61 m63 u64 m61
      (fun l83 =>
        k84 l83)
      (0 : Int) (List.replicate m61 (0 : Int))
  else
    none
def g74 {α : Type} (m : Nat) : Nat → Nat → Nat → Nat → (List Int) → ((List Int) → Option α) → Option α :=
  g74b (g74l0M m)
def g74tp : List TP := [(.vl (.sv (.slc 0 0 1)))]
def g74bp : List BP := [(false, [(.seqv (.int .i8))])]
def g74K {α : Type} (G : Nat → Nat → Nat → Nat → (List Int) → ((List Int) → Option α) → Option α) (ls : List Lf) (k : TV → List (List Seg) → List (List Seg) → Option α) : Option α :=
  G (lf ls 0).nat (lf ls 1).nat (lf ls 2).nat (lf ls 3).nat ((lf ls 4).lst (.int .i8))
    (fun y6 => k (.vl (.sv (.slc 1 0 1 0 (lf ls 1).nat (lf ls 1).nat))) [[(.seq (.int .i8) (lf ls 3).nat ((lf ls 4).lst (.int .i8)))]] [[(.seq (.int .i8) (lf ls 1).nat y6)]])
def g74hd  (L_g74l0 : {α : Type} → Nat → Nat → Nat → Nat → Nat → Nat → Nat → (List Int) → Nat → ((List Int) → Option α) → Int → (List Int) → Option α) : Hd where
  call := fun f args Bs k => none
  loop := fun id st k => cond (Nat.beq id 0) (loopH g74l0D (g74l0K L_g74l0) st k) (none)
  ro := fun f => []
def g74h (m : Nat) : Hd := g74hd (g74l0M m)
theorem g74l0Step  (L_g74l0 : {α : Type} → Nat → Nat → Nat → Nat → Nat → Nat → Nat → (List Int) → Nat → ((List Int) → Option α) → Int → (List Int) → Option α) {α : Type} (L : Nat → Nat → Nat → Nat → Nat → Nat → Nat → (List Int) → Nat → ((List Int) → Option α) → Int → (List Int) → Option α) (ls : List Lf) (k : Ex → St → Option α) :
    g74l0K (fun m66 m67 m68 m69 m70 m71 m73 a74 m75 k81 v72 a76 => g74l0b m66 m67 m68 m69 m70 m71 m73 a74 m75 k81 (L m66 m67 m68 m69 m70 m71 m73 a74 m75 k81) v72 a76) ls k = ev tab (g74hd L_g74l0) (bodyAt Go.Proofs.Try.f74 0) (atHead g74l0D ls) (loopK g74l0D 0 (loopH g74l0D (g74l0K L)) k) := by kernel_rfl
theorem g74Main  (L_g74l0 : {α : Type} → Nat → Nat → Nat → Nat → Nat → Nat → Nat → (List Int) → Nat → ((List Int) → Option α) → Int → (List Int) → Option α) {α : Type} (ls : List Lf) (k : TV → List (List Seg) → List (List Seg) → Option α) :
    g74K (g74b L_g74l0) ls k = evFun tab (g74hd L_g74l0) Go.Proofs.Try.f74 (fillT g74tp ls).1 (fillB g74bp (fillT g74tp ls).2).1 k := by kernel_rfl
theorem g74Calls (m : Nat) : (g74h m).CallsOk Go.Proofs.Try.prog := cok_nil
theorem g74l0Ok (m : Nat) (α : Type) (st : St) (k : Ex → St → Option α) (r : α) (h : (g74h m).loop 0 st k = some r) :
    ∃ e st', k e st' = some r ∧ CodeS Go.Proofs.Try.prog (.block 0 (.loop (bodyAt Go.Proofs.Try.f74 0))) st e st' :=
  loop_ok (tab := tab) (h := g74h m) (F := fun n ls k => g74l0K (fun m66 m67 m68 m69 m70 m71 m73 a74 m75 k81 v72 a76 => g74l0 m66 m67 m68 m69 m70 m71 m73 a74 m75 k81 n v72 a76) ls k) tabOk (g74Calls m) mixed (loopsOk_of _ (fun p hp => by rw [show loopsOf (bodyAt Go.Proofs.Try.f74 0) = [] by kernel_rfl] at hp; cases hp))
    (fun _ _ => rfl) (fun n ls k => g74l0Step (g74l0M m) (fun m66 m67 m68 m69 m70 m71 m73 a74 m75 k81 => g74l0 m66 m67 m68 m69 m70 m71 m73 a74 m75 k81 n) ls k) (n := m) h
theorem g74Fn (m : Nat) : FnOk Go.Proofs.Try.prog 74 g74tp g74bp (fun {α} => g74K (g74 (α := α) m)) :=
  fn_ok (tab := tab) (h := g74h m) (fn := Go.Proofs.Try.f74) (F := fun {α} => g74K (g74 (α := α) m)) tabOk (g74Calls m) mixed (by kernel_rfl) (by kernel_rfl) (fun c hc => by
    rw [bodyOf_some hc]
    exact loopsOk_of _ (fun p hp => by
    rw [show loopsOf (bodyOf Go.Proofs.Try.f74) = [(0, bodyAt Go.Proofs.Try.f74 0)] by kernel_rfl] at hp
    simp only [List.mem_cons, List.not_mem_nil, or_false] at hp
    rcases hp with rfl
    exact g74l0Ok m))
    (fun α ls k => g74Main (g74l0M m) ls k)
theorem g74Ok (m : Nat) : RowOk Go.Proofs.Try.prog 74 (fun {α} => rowK g74tp g74bp (g74K (g74 (α := α) m))) := row_of (g74Fn m)

/-! ### g37: laws.toStream -/
def g37b {α : Type} (G_g74 : {α : Type} → Nat → Nat → Nat → Nat → (List Int) → ((List Int) → Option α) → Option α)  (m50 : Nat) (m51 : Nat) (m52 : Nat) (m53 : Nat) (m54 : Nat) (m55 : Nat) (m56 : Nat) (u57 : List Int) (m58 : Nat) (u59 : List Int) (k87 : (List Int) → (List Int) → Option α) : Option α :=
  G_g74 m50 m51 m52 m56 u57
    (fun l85 =>
      G_g74 m53 m54 m55 m58 u59
        (fun l86 =>
          k87 l85 l86))
def g37 {α : Type} (m : Nat) : Nat → Nat → Nat → Nat → Nat → Nat → Nat → (List Int) → Nat → (List Int) → ((List Int) → (List Int) → Option α) → Option α :=
  g37b (g74 m)
def g37tp : List TP := [(.vl (.agg [(.one (.slc 0 0 1)), (.one (.slc 1 0 1))]))]
def g37bp : List BP := [(false, [(.seqv (.int .i8))]), (false, [(.seqv (.int .i8))])]
def g37K {α : Type} (G : Nat → Nat → Nat → Nat → Nat → Nat → Nat → (List Int) → Nat → (List Int) → ((List Int) → (List Int) → Option α) → Option α) (ls : List Lf) (k : TV → List (List Seg) → List (List Seg) → Option α) : Option α :=
  G (lf ls 0).nat (lf ls 1).nat (lf ls 2).nat (lf ls 3).nat (lf ls 4).nat (lf ls 5).nat (lf ls 6).nat ((lf ls 7).lst (.int .i8)) (lf ls 8).nat ((lf ls 9).lst (.int .i8))
    (fun y11 y13 => k (.vl (.agg [(.one (.slc 2 0 1 0 (lf ls 1).nat (lf ls 1).nat)), (.one (.slc 3 0 1 0 (lf ls 4).nat (lf ls 4).nat))])) [[(.seq (.int .i8) (lf ls 6).nat ((lf ls 7).lst (.int .i8)))], [(.seq (.int .i8) (lf ls 8).nat ((lf ls 9).lst (.int .i8)))]] [[(.seq (.int .i8) (lf ls 1).nat y11)], [(.seq (.int .i8) (lf ls 4).nat y13)]])
def g37hd (G_g74 : {α : Type} → Nat → Nat → Nat → Nat → (List Int) → ((List Int) → Option α) → Option α)  : Hd where
  call := fun f args Bs k => cond (Nat.beq f 74) (rowK g74tp g74bp (g74K G_g74) args Bs k) (none)
  loop := fun id st k => none
  ro := fun f => cond (Nat.beq f 74) [0] ([])
def g37h (m : Nat) : Hd := g37hd (g74 m)
theorem g37Main (G_g74 : {α : Type} → Nat → Nat → Nat → Nat → (List Int) → ((List Int) → Option α) → Option α)  {α : Type} (ls : List Lf) (k : TV → List (List Seg) → List (List Seg) → Option α) :
    g37K (g37b G_g74) ls k = evFun tab (g37hd G_g74) Go.Proofs.Try.f37 (fillT g37tp ls).1 (fillB g37bp (fillT g37tp ls).2).1 k := by kernel_rfl
theorem g37Calls (m : Nat) : (g37h m).CallsOk Go.Proofs.Try.prog := (cok_cons (g74Ok m) cok_nil)
theorem g37Fn (m : Nat) : FnOk Go.Proofs.Try.prog 37 g37tp g37bp (fun {α} => g37K (g37 (α := α) m)) :=
  fn_ok (tab := tab) (h := g37h m) (fn := Go.Proofs.Try.f37) (F := fun {α} => g37K (g37 (α := α) m)) tabOk (g37Calls m) mixed (by kernel_rfl) (by kernel_rfl) (fun c hc => by
    rw [bodyOf_some hc]
    exact loopsOk_of _ (fun p hp => by rw [show loopsOf (bodyOf Go.Proofs.Try.f37) = [] by kernel_rfl] at hp; cases hp))
    (fun α ls k => g37Main (g74 m) ls k)
theorem g37Ok (m : Nat) : RowOk Go.Proofs.Try.prog 37 (fun {α} => rowK g37tp g37bp (g37K (g37 (α := α) m))) := row_of (g37Fn m)

/-! ### g86: spec.l03SameList -/
def g86l0b {α : Type}   (m143 : Nat) (m144 : Nat) (m145 : Nat) (m146 : Nat) (m147 : Nat) (m148 : Nat) (m150 : Nat) (a151 : List Int) (m152 : Nat) (a153 : List Int) (k159 : Option α) (k160 : Option α) (r161 : Int → Option α) (v149 : Int) : Option α :=
  cond (decide (v149 < ((m144 : Nat) : Int)))
   (
    if 0 ≤ v149 ∧ v149 < (m144 : Nat) then
      if (m143 + v149.toNat) < m150 then
        if 0 ≤ v149 ∧ v149 < (m147 : Nat) then
          if (m146 + v149.toNat) < m152 then
            cond ((List.getD a151 (m143 + v149.toNat) 0) != (List.getD a153 (m146 + v149.toNat) 0))
             (
              k159)
             (
              r161 (IntKind.wrap .i64 (v149 + (1 : Int))))
          else
            none
        else
          none
      else
        none
    else
      none)
   (
    k160)
def g86l0 {α : Type}   (m143 : Nat) (m144 : Nat) (m145 : Nat) (m146 : Nat) (m147 : Nat) (m148 : Nat) (m150 : Nat) (a151 : List Int) (m152 : Nat) (a153 : List Int) (k159 : Option α) (k160 : Option α) : Nat → Int → Option α
  | 0 => fun _ => none
  | m + 1 => fun v149 => g86l0b m143 m144 m145 m146 m147 m148 m150 a151 m152 a153 k159 k160 (g86l0 m143 m144 m145 m146 m147 m148 m150 a151 m152 a153 k159 k160 m) v149
def g86l0M {α : Type} (m : Nat) : Nat → Nat → Nat → Nat → Nat → Nat → Nat → (List Int) → Nat → (List Int) → (Option α) → (Option α) → Int → Option α :=
  fun m143 m144 m145 m146 m147 m148 m150 a151 m152 a153 k159 k160 v149 => g86l0 m143 m144 m145 m146 m147 m148 m150 a151 m152 a153 k159 k160 m v149
def g86l0D : LoopD := { n := 26, sl := [0, 1, 5], bl := [0, 1], tp := [(.vl (.sv (.slc 0 0 1))), (.vl (.sv (.slc 1 0 1))), (.vl (.sv (.int .i64)))], bp := [(false, [(.seqv (.int .i8))]), (false, [(.seqv (.int .i8))])], xs := [(1, [4], [0, 1]), (2, [], [0, 1])] }
def g86l0K {α : Type} (L : Nat → Nat → Nat → Nat → Nat → Nat → Nat → (List Int) → Nat → (List Int) → (Option α) → (Option α) → Int → Option α) (ls : List Lf) (k : Ex → St → Option α) : Option α :=
  L (lf ls 0).nat (lf ls 1).nat (lf ls 2).nat (lf ls 3).nat (lf ls 4).nat (lf ls 5).nat (lf ls 7).nat ((lf ls 8).lst (.int .i8)) (lf ls 9).nat ((lf ls 10).lst (.int .i8))
    (k .ret (mkSt 26 [4] [(.vl (.sv (.bool false)))] [0, 1] [(false, [(.seq (.int .i8) (lf ls 7).nat ((lf ls 8).lst (.int .i8)))]), (false, [(.seq (.int .i8) (lf ls 9).nat ((lf ls 10).lst (.int .i8)))])]))
    (k .normal (mkSt 26 [] [] [0, 1] [(false, [(.seq (.int .i8) (lf ls 7).nat ((lf ls 8).lst (.int .i8)))]), (false, [(.seq (.int .i8) (lf ls 9).nat ((lf ls 10).lst (.int .i8)))])]))
    (lf ls 6).int
def g86b {α : Type}  (L_g86l0 : {α : Type} → Nat → Nat → Nat → Nat → Nat → Nat → Nat → (List Int) → Nat → (List Int) → (Option α) → (Option α) → Int → Option α) (m132 : Nat) (m133 : Nat) (m134 : Nat) (m135 : Nat) (m136 : Nat) (m137 : Nat) (m138 : Nat) (u139 : List Int) (m140 : Nat) (u141 : List Int) (k162 : Bool → Option α) : Option α :=
  cond (((m133 : Nat) : Int) != ((m136 : Nat) : Int))
   (
    k162 false)
   (
    L_g86l0 m132 m133 m134 m135 m136 m137 m138 u139 m140 u141
      (
        k162 false)
      (
        k162 true)
      (0 : Int))
def g86 {α : Type} (m : Nat) : Nat → Nat → Nat → Nat → Nat → Nat → Nat → (List Int) → Nat → (List Int) → (Bool → Option α) → Option α :=
  g86b (g86l0M m)
def g86tp : List TP := [(.vl (.sv (.slc 0 0 1))), (.vl (.sv (.slc 1 0 1)))]
def g86bp : List BP := [(false, [(.seqv (.int .i8))]), (false, [(.seqv (.int .i8))])]
def g86K {α : Type} (G : Nat → Nat → Nat → Nat → Nat → Nat → Nat → (List Int) → Nat → (List Int) → (Bool → Option α) → Option α) (ls : List Lf) (k : TV → List (List Seg) → List (List Seg) → Option α) : Option α :=
  G (lf ls 0).nat (lf ls 1).nat (lf ls 2).nat (lf ls 3).nat (lf ls 4).nat (lf ls 5).nat (lf ls 6).nat ((lf ls 7).lst (.int .i8)) (lf ls 8).nat ((lf ls 9).lst (.int .i8))
    (fun y0 => k (.vl (.sv (.bool y0))) [[(.seq (.int .i8) (lf ls 6).nat ((lf ls 7).lst (.int .i8)))], [(.seq (.int .i8) (lf ls 8).nat ((lf ls 9).lst (.int .i8)))]] [])
def g86hd  (L_g86l0 : {α : Type} → Nat → Nat → Nat → Nat → Nat → Nat → Nat → (List Int) → Nat → (List Int) → (Option α) → (Option α) → Int → Option α) : Hd where
  call := fun f args Bs k => none
  loop := fun id st k => cond (Nat.beq id 0) (loopH g86l0D (g86l0K L_g86l0) st k) (none)
  ro := fun f => []
def g86h (m : Nat) : Hd := g86hd (g86l0M m)
theorem g86l0Step  (L_g86l0 : {α : Type} → Nat → Nat → Nat → Nat → Nat → Nat → Nat → (List Int) → Nat → (List Int) → (Option α) → (Option α) → Int → Option α) {α : Type} (L : Nat → Nat → Nat → Nat → Nat → Nat → Nat → (List Int) → Nat → (List Int) → (Option α) → (Option α) → Int → Option α) (ls : List Lf) (k : Ex → St → Option α) :
    g86l0K (fun m143 m144 m145 m146 m147 m148 m150 a151 m152 a153 k159 k160 v149 => g86l0b m143 m144 m145 m146 m147 m148 m150 a151 m152 a153 k159 k160 (L m143 m144 m145 m146 m147 m148 m150 a151 m152 a153 k159 k160) v149) ls k = ev tab (g86hd L_g86l0) (bodyAt Go.Proofs.Try.f86 0) (atHead g86l0D ls) (loopK g86l0D 0 (loopH g86l0D (g86l0K L)) k) := by kernel_rfl
theorem g86Main  (L_g86l0 : {α : Type} → Nat → Nat → Nat → Nat → Nat → Nat → Nat → (List Int) → Nat → (List Int) → (Option α) → (Option α) → Int → Option α) {α : Type} (ls : List Lf) (k : TV → List (List Seg) → List (List Seg) → Option α) :
    g86K (g86b L_g86l0) ls k = evFun tab (g86hd L_g86l0) Go.Proofs.Try.f86 (fillT g86tp ls).1 (fillB g86bp (fillT g86tp ls).2).1 k := by kernel_rfl
theorem g86Calls (m : Nat) : (g86h m).CallsOk Go.Proofs.Try.prog := cok_nil
theorem g86l0Ok (m : Nat) (α : Type) (st : St) (k : Ex → St → Option α) (r : α) (h : (g86h m).loop 0 st k = some r) :
    ∃ e st', k e st' = some r ∧ CodeS Go.Proofs.Try.prog (.block 0 (.loop (bodyAt Go.Proofs.Try.f86 0))) st e st' :=
  loop_ok (tab := tab) (h := g86h m) (F := fun n ls k => g86l0K (fun m143 m144 m145 m146 m147 m148 m150 a151 m152 a153 k159 k160 v149 => g86l0 m143 m144 m145 m146 m147 m148 m150 a151 m152 a153 k159 k160 n v149) ls k) tabOk (g86Calls m) mixed (loopsOk_of _ (fun p hp => by rw [show loopsOf (bodyAt Go.Proofs.Try.f86 0) = [] by kernel_rfl] at hp; cases hp))
    (fun _ _ => rfl) (fun n ls k => g86l0Step (g86l0M m) (fun m143 m144 m145 m146 m147 m148 m150 a151 m152 a153 k159 k160 => g86l0 m143 m144 m145 m146 m147 m148 m150 a151 m152 a153 k159 k160 n) ls k) (n := m) h
theorem g86Fn (m : Nat) : FnOk Go.Proofs.Try.prog 86 g86tp g86bp (fun {α} => g86K (g86 (α := α) m)) :=
  fn_ok (tab := tab) (h := g86h m) (fn := Go.Proofs.Try.f86) (F := fun {α} => g86K (g86 (α := α) m)) tabOk (g86Calls m) mixed (by kernel_rfl) (by kernel_rfl) (fun c hc => by
    rw [bodyOf_some hc]
    exact loopsOk_of _ (fun p hp => by
    rw [show loopsOf (bodyOf Go.Proofs.Try.f86) = [(0, bodyAt Go.Proofs.Try.f86 0)] by kernel_rfl] at hp
    simp only [List.mem_cons, List.not_mem_nil, or_false] at hp
    rcases hp with rfl
    exact g86l0Ok m))
    (fun α ls k => g86Main (g86l0M m) ls k)
theorem g86Ok (m : Nat) : RowOk Go.Proofs.Try.prog 86 (fun {α} => rowK g86tp g86bp (g86K (g86 (α := α) m))) := row_of (g86Fn m)

/-! ### g73: spec.l03Same -/
def g73b {α : Type} (G_g86 : {α : Type} → Nat → Nat → Nat → Nat → Nat → Nat → Nat → (List Int) → Nat → (List Int) → (Bool → Option α) → Option α)  (m112 : Nat) (m113 : Nat) (m114 : Nat) (m115 : Nat) (m116 : Nat) (m117 : Nat) (m118 : Nat) (m119 : Nat) (m120 : Nat) (m121 : Nat) (m122 : Nat) (m123 : Nat) (m124 : Nat) (u125 : List Int) (m126 : Nat) (u127 : List Int) (m128 : Nat) (u129 : List Int) (m130 : Nat) (u131 : List Int) (k165 : Bool → Option α) : Option α :=
  G_g86 m112 m113 m114 m118 m119 m120 m124 u125 m128 u129
    (fun b163 =>
      cond b163
       (
        G_g86 m115 m116 m117 m121 m122 m123 m126 u127 m130 u131
          (fun b164 =>
            k165 b164))
       (
        k165 false))
def g73 {α : Type} (m : Nat) : Nat → Nat → Nat → Nat → Nat → Nat → Nat → Nat → Nat → Nat → Nat → Nat → Nat → (List Int) → Nat → (List Int) → Nat → (List Int) → Nat → (List Int) → (Bool → Option α) → Option α :=
  g73b (g86 m)
def g73tp : List TP := [(.vl (.sv (.ptr 0 0))), (.vl (.sv (.ptr 1 0)))]
def g73bp : List BP := [(false, [(.one (.slc 2 0 1)), (.one (.slc 3 0 1))]), (false, [(.one (.slc 4 0 1)), (.one (.slc 5 0 1))]), (false, [(.seqv (.int .i8))]), (false, [(.seqv (.int .i8))]), (false, [(.seqv (.int .i8))]), (false, [(.seqv (.int .i8))])]
def g73K {α : Type} (G : Nat → Nat → Nat → Nat → Nat → Nat → Nat → Nat → Nat → Nat → Nat → Nat → Nat → (List Int) → Nat → (List Int) → Nat → (List Int) → Nat → (List Int) → (Bool → Option α) → Option α) (ls : List Lf) (k : TV → List (List Seg) → List (List Seg) → Option α) : Option α :=
  G (lf ls 0).nat (lf ls 1).nat (lf ls 2).nat (lf ls 3).nat (lf ls 4).nat (lf ls 5).nat (lf ls 6).nat (lf ls 7).nat (lf ls 8).nat (lf ls 9).nat (lf ls 10).nat (lf ls 11).nat (lf ls 12).nat ((lf ls 13).lst (.int .i8)) (lf ls 14).nat ((lf ls 15).lst (.int .i8)) (lf ls 16).nat ((lf ls 17).lst (.int .i8)) (lf ls 18).nat ((lf ls 19).lst (.int .i8))
    (fun y0 => k (.vl (.sv (.bool y0))) [[(.one (.slc 2 0 1 (lf ls 0).nat (lf ls 1).nat (lf ls 2).nat)), (.one (.slc 3 0 1 (lf ls 3).nat (lf ls 4).nat (lf ls 5).nat))], [(.one (.slc 4 0 1 (lf ls 6).nat (lf ls 7).nat (lf ls 8).nat)), (.one (.slc 5 0 1 (lf ls 9).nat (lf ls 10).nat (lf ls 11).nat))], [(.seq (.int .i8) (lf ls 12).nat ((lf ls 13).lst (.int .i8)))], [(.seq (.int .i8) (lf ls 14).nat ((lf ls 15).lst (.int .i8)))], [(.seq (.int .i8) (lf ls 16).nat ((lf ls 17).lst (.int .i8)))], [(.seq (.int .i8) (lf ls 18).nat ((lf ls 19).lst (.int .i8)))]] [])
def g73hd (G_g86 : {α : Type} → Nat → Nat → Nat → Nat → Nat → Nat → Nat → (List Int) → Nat → (List Int) → (Bool → Option α) → Option α)  : Hd where
  call := fun f args Bs k => cond (Nat.beq f 86) (rowK g86tp g86bp (g86K G_g86) args Bs k) (none)
  loop := fun id st k => none
  ro := fun f => cond (Nat.beq f 86) [0, 1] ([])
def g73h (m : Nat) : Hd := g73hd (g86 m)
theorem g73Main (G_g86 : {α : Type} → Nat → Nat → Nat → Nat → Nat → Nat → Nat → (List Int) → Nat → (List Int) → (Bool → Option α) → Option α)  {α : Type} (ls : List Lf) (k : TV → List (List Seg) → List (List Seg) → Option α) :
    g73K (g73b G_g86) ls k = evFun tab (g73hd G_g86) Go.Proofs.Try.f73 (fillT g73tp ls).1 (fillB g73bp (fillT g73tp ls).2).1 k := by kernel_rfl
theorem g73Calls (m : Nat) : (g73h m).CallsOk Go.Proofs.Try.prog := (cok_cons (g86Ok m) cok_nil)
theorem g73Fn (m : Nat) : FnOk Go.Proofs.Try.prog 73 g73tp g73bp (fun {α} => g73K (g73 (α := α) m)) :=
  fn_ok (tab := tab) (h := g73h m) (fn := Go.Proofs.Try.f73) (F := fun {α} => g73K (g73 (α := α) m)) tabOk (g73Calls m) mixed (by kernel_rfl) (by kernel_rfl) (fun c hc => by
    rw [bodyOf_some hc]
    exact loopsOk_of _ (fun p hp => by rw [show loopsOf (bodyOf Go.Proofs.Try.f73) = [] by kernel_rfl] at hp; cases hp))
    (fun α ls k => g73Main (g86 m) ls k)
theorem g73Ok (m : Nat) : RowOk Go.Proofs.Try.prog 73 (fun {α} => rowK g73tp g73bp (g73K (g73 (α := α) m))) := row_of (g73Fn m)

/-! ### g36: spec.SameStream -/
def g36b {α : Type} (G_g73 : {α : Type} → Nat → Nat → Nat → Nat → Nat → Nat → Nat → Nat → Nat → Nat → Nat → Nat → Nat → (List Int) → Nat → (List Int) → Nat → (List Int) → Nat → (List Int) → (Bool → Option α) → Option α)  (m92 : Nat) (m93 : Nat) (m94 : Nat) (m95 : Nat) (m96 : Nat) (m97 : Nat) (m98 : Nat) (m99 : Nat) (m100 : Nat) (m101 : Nat) (m102 : Nat) (m103 : Nat) (m104 : Nat) (u105 : List Int) (m106 : Nat) (u107 : List Int) (m108 : Nat) (u109 : List Int) (m110 : Nat) (u111 : List Int) (k167 : Bool → Option α) : Option α :=
  G_g73 m92 m93 m94 m95 m96 m97 m98 m99 m100 m101 m102 m103 m104 u105 m106 u107 m108 u109 m110 u111
    (fun b166 =>
      k167 b166)
def g36 {α : Type} (m : Nat) : Nat → Nat → Nat → Nat → Nat → Nat → Nat → Nat → Nat → Nat → Nat → Nat → Nat → (List Int) → Nat → (List Int) → Nat → (List Int) → Nat → (List Int) → (Bool → Option α) → Option α :=
  g36b (g73 m)
def g36tp : List TP := [(.vl (.agg [(.one (.slc 0 0 1)), (.one (.slc 1 0 1))])), (.vl (.agg [(.one (.slc 2 0 1)), (.one (.slc 3 0 1))]))]
def g36bp : List BP := [(false, [(.seqv (.int .i8))]), (false, [(.seqv (.int .i8))]), (false, [(.seqv (.int .i8))]), (false, [(.seqv (.int .i8))])]
def g36K {α : Type} (G : Nat → Nat → Nat → Nat → Nat → Nat → Nat → Nat → Nat → Nat → Nat → Nat → Nat → (List Int) → Nat → (List Int) → Nat → (List Int) → Nat → (List Int) → (Bool → Option α) → Option α) (ls : List Lf) (k : TV → List (List Seg) → List (List Seg) → Option α) : Option α :=
  G (lf ls 0).nat (lf ls 1).nat (lf ls 2).nat (lf ls 3).nat (lf ls 4).nat (lf ls 5).nat (lf ls 6).nat (lf ls 7).nat (lf ls 8).nat (lf ls 9).nat (lf ls 10).nat (lf ls 11).nat (lf ls 12).nat ((lf ls 13).lst (.int .i8)) (lf ls 14).nat ((lf ls 15).lst (.int .i8)) (lf ls 16).nat ((lf ls 17).lst (.int .i8)) (lf ls 18).nat ((lf ls 19).lst (.int .i8))
    (fun y0 => k (.vl (.sv (.bool y0))) [[(.seq (.int .i8) (lf ls 12).nat ((lf ls 13).lst (.int .i8)))], [(.seq (.int .i8) (lf ls 14).nat ((lf ls 15).lst (.int .i8)))], [(.seq (.int .i8) (lf ls 16).nat ((lf ls 17).lst (.int .i8)))], [(.seq (.int .i8) (lf ls 18).nat ((lf ls 19).lst (.int .i8)))]] [])
def g36hd (G_g73 : {α : Type} → Nat → Nat → Nat → Nat → Nat → Nat → Nat → Nat → Nat → Nat → Nat → Nat → Nat → (List Int) → Nat → (List Int) → Nat → (List Int) → Nat → (List Int) → (Bool → Option α) → Option α)  : Hd where
  call := fun f args Bs k => cond (Nat.beq f 73) (rowK g73tp g73bp (g73K G_g73) args Bs k) (none)
  loop := fun id st k => none
  ro := fun f => cond (Nat.beq f 73) [0, 1, 2, 3, 4, 5] ([])
def g36h (m : Nat) : Hd := g36hd (g73 m)
theorem g36Main (G_g73 : {α : Type} → Nat → Nat → Nat → Nat → Nat → Nat → Nat → Nat → Nat → Nat → Nat → Nat → Nat → (List Int) → Nat → (List Int) → Nat → (List Int) → Nat → (List Int) → (Bool → Option α) → Option α)  {α : Type} (ls : List Lf) (k : TV → List (List Seg) → List (List Seg) → Option α) :
    g36K (g36b G_g73) ls k = evFun tab (g36hd G_g73) Go.Proofs.Try.f36 (fillT g36tp ls).1 (fillB g36bp (fillT g36tp ls).2).1 k := by kernel_rfl
theorem g36Calls (m : Nat) : (g36h m).CallsOk Go.Proofs.Try.prog := (cok_cons (g73Ok m) cok_nil)
theorem g36Fn (m : Nat) : FnOk Go.Proofs.Try.prog 36 g36tp g36bp (fun {α} => g36K (g36 (α := α) m)) :=
  fn_ok (tab := tab) (h := g36h m) (fn := Go.Proofs.Try.f36) (F := fun {α} => g36K (g36 (α := α) m)) tabOk (g36Calls m) mixed (by kernel_rfl) (by kernel_rfl) (fun c hc => by
    rw [bodyOf_some hc]
    exact loopsOk_of _ (fun p hp => by rw [show loopsOf (bodyOf Go.Proofs.Try.f36) = [] by kernel_rfl] at hp; cases hp))
    (fun α ls k => g36Main (g73 m) ls k)
theorem g36Ok (m : Nat) : RowOk Go.Proofs.Try.prog 36 (fun {α} => rowK g36tp g36bp (g36K (g36 (α := α) m))) := row_of (g36Fn m)

/-! ### g75: slices.Equal[[]int8,int8] -/
def g75l0b {α : Type}   (m204 : Nat) (m205 : Nat) (m206 : Nat) (m207 : Nat) (m208 : Nat) (m209 : Nat) (v210 : Int) (m212 : Nat) (a213 : List Int) (m214 : Nat) (a215 : List Int) (k221 : Option α) (k222 : Option α) (r223 : Int → Option α) (v211 : Int) : Option α :=
  cond (decide (v211 < v210))
   (
    if 0 ≤ v211 ∧ v211 < (m205 : Nat) then
      if (m204 + v211.toNat) < m212 then
        if 0 ≤ v211 ∧ v211 < (m208 : Nat) then
          if (m207 + v211.toNat) < m214 then
            cond ((List.getD a213 (m204 + v211.toNat) 0) != (List.getD a215 (m207 + v211.toNat) 0))
             (
              k221)
             (
              r223 (IntKind.wrap .i64 (v211 + (1 : Int))))
          else
            none
        else
          none
      else
        none
    else
      none)
   (
    k222)
def g75l0 {α : Type}   (m204 : Nat) (m205 : Nat) (m206 : Nat) (m207 : Nat) (m208 : Nat) (m209 : Nat) (v210 : Int) (m212 : Nat) (a213 : List Int) (m214 : Nat) (a215 : List Int) (k221 : Option α) (k222 : Option α) : Nat → Int → Option α
  | 0 => fun _ => none
  | m + 1 => fun v211 => g75l0b m204 m205 m206 m207 m208 m209 v210 m212 a213 m214 a215 k221 k222 (g75l0 m204 m205 m206 m207 m208 m209 v210 m212 a213 m214 a215 k221 k222 m) v211
def g75l0M {α : Type} (m : Nat) : Nat → Nat → Nat → Nat → Nat → Nat → Int → Nat → (List Int) → Nat → (List Int) → (Option α) → (Option α) → Int → Option α :=
  fun m204 m205 m206 m207 m208 m209 v210 m212 a213 m214 a215 k221 k222 v211 => g75l0 m204 m205 m206 m207 m208 m209 v210 m212 a213 m214 a215 k221 k222 m v211
def g75l0D : LoopD := { n := 26, sl := [0, 1, 12, 13], bl := [0, 1], tp := [(.vl (.sv (.slc 0 0 1))), (.vl (.sv (.slc 1 0 1))), (.vl (.sv (.int .i64))), (.vl (.sv (.int .i64)))], bp := [(false, [(.seqv (.int .i8))]), (false, [(.seqv (.int .i8))])], xs := [(1, [4], [0, 1]), (2, [], [0, 1])] }
def g75l0K {α : Type} (L : Nat → Nat → Nat → Nat → Nat → Nat → Int → Nat → (List Int) → Nat → (List Int) → (Option α) → (Option α) → Int → Option α) (ls : List Lf) (k : Ex → St → Option α) : Option α :=
  L (lf ls 0).nat (lf ls 1).nat (lf ls 2).nat (lf ls 3).nat (lf ls 4).nat (lf ls 5).nat (lf ls 6).int (lf ls 8).nat ((lf ls 9).lst (.int .i8)) (lf ls 10).nat ((lf ls 11).lst (.int .i8))
    (k .ret (mkSt 26 [4] [(.vl (.sv (.bool false)))] [0, 1] [(false, [(.seq (.int .i8) (lf ls 8).nat ((lf ls 9).lst (.int .i8)))]), (false, [(.seq (.int .i8) (lf ls 10).nat ((lf ls 11).lst (.int .i8)))])]))
    (k .normal (mkSt 26 [] [] [0, 1] [(false, [(.seq (.int .i8) (lf ls 8).nat ((lf ls 9).lst (.int .i8)))]), (false, [(.seq (.int .i8) (lf ls 10).nat ((lf ls 11).lst (.int .i8)))])]))
    (lf ls 7).int
def g75b {α : Type}  (L_g75l0 : {α : Type} → Nat → Nat → Nat → Nat → Nat → Nat → Int → Nat → (List Int) → Nat → (List Int) → (Option α) → (Option α) → Int → Option α) (m193 : Nat) (m194 : Nat) (m195 : Nat) (m196 : Nat) (m197 : Nat) (m198 : Nat) (m199 : Nat) (u200 : List Int) (m201 : Nat) (u202 : List Int) (k224 : Bool → Option α) : Option α :=
  cond (((m194 : Nat) : Int) != ((m197 : Nat) : Int))
   (
    k224 false)
   (
    L_g75l0 m193 m194 m195 m196 m197 m198 ((m194 : Nat) : Int) m199 u200 m201 u202
      (
        k224 false)
      (
        k224 true)
      (0 : Int))
def g75 {α : Type} (m : Nat) : Nat → Nat → Nat → Nat → Nat → Nat → Nat → (List Int) → Nat → (List Int) → (Bool → Option α) → Option α :=
  g75b (g75l0M m)
def g75tp : List TP := [(.vl (.sv (.slc 0 0 1))), (.vl (.sv (.slc 1 0 1)))]
def g75bp : List BP := [(false, [(.seqv (.int .i8))]), (false, [(.seqv (.int .i8))])]
def g75K {α : Type} (G : Nat → Nat → Nat → Nat → Nat → Nat → Nat → (List Int) → Nat → (List Int) → (Bool → Option α) → Option α) (ls : List Lf) (k : TV → List (List Seg) → List (List Seg) → Option α) : Option α :=
  G (lf ls 0).nat (lf ls 1).nat (lf ls 2).nat (lf ls 3).nat (lf ls 4).nat (lf ls 5).nat (lf ls 6).nat ((lf ls 7).lst (.int .i8)) (lf ls 8).nat ((lf ls 9).lst (.int .i8))
    (fun y0 => k (.vl (.sv (.bool y0))) [[(.seq (.int .i8) (lf ls 6).nat ((lf ls 7).lst (.int .i8)))], [(.seq (.int .i8) (lf ls 8).nat ((lf ls 9).lst (.int .i8)))]] [])
def g75hd  (L_g75l0 : {α : Type} → Nat → Nat → Nat → Nat → Nat → Nat → Int → Nat → (List Int) → Nat → (List Int) → (Option α) → (Option α) → Int → Option α) : Hd where
  call := fun f args Bs k => none
  loop := fun id st k => cond (Nat.beq id 0) (loopH g75l0D (g75l0K L_g75l0) st k) (none)
  ro := fun f => []
def g75h (m : Nat) : Hd := g75hd (g75l0M m)
theorem g75l0Step  (L_g75l0 : {α : Type} → Nat → Nat → Nat → Nat → Nat → Nat → Int → Nat → (List Int) → Nat → (List Int) → (Option α) → (Option α) → Int → Option α) {α : Type} (L : Nat → Nat → Nat → Nat → Nat → Nat → Int → Nat → (List Int) → Nat → (List Int) → (Option α) → (Option α) → Int → Option α) (ls : List Lf) (k : Ex → St → Option α) :
    g75l0K (fun m204 m205 m206 m207 m208 m209 v210 m212 a213 m214 a215 k221 k222 v211 => g75l0b m204 m205 m206 m207 m208 m209 v210 m212 a213 m214 a215 k221 k222 (L m204 m205 m206 m207 m208 m209 v210 m212 a213 m214 a215 k221 k222) v211) ls k = ev tab (g75hd L_g75l0) (bodyAt Go.Proofs.Try.f75 0) (atHead g75l0D ls) (loopK g75l0D 0 (loopH g75l0D (g75l0K L)) k) := by kernel_rfl
theorem g75Main  (L_g75l0 : {α : Type} → Nat → Nat → Nat → Nat → Nat → Nat → Int → Nat → (List Int) → Nat → (List Int) → (Option α) → (Option α) → Int → Option α) {α : Type} (ls : List Lf) (k : TV → List (List Seg) → List (List Seg) → Option α) :
    g75K (g75b L_g75l0) ls k = evFun tab (g75hd L_g75l0) Go.Proofs.Try.f75 (fillT g75tp ls).1 (fillB g75bp (fillT g75tp ls).2).1 k := by kernel_rfl
theorem g75Calls (m : Nat) : (g75h m).CallsOk Go.Proofs.Try.prog := cok_nil
theorem g75l0Ok (m : Nat) (α : Type) (st : St) (k : Ex → St → Option α) (r : α) (h : (g75h m).loop 0 st k = some r) :
    ∃ e st', k e st' = some r ∧ CodeS Go.Proofs.Try.prog (.block 0 (.loop (bodyAt Go.Proofs.Try.f75 0))) st e st' :=
  loop_ok (tab := tab) (h := g75h m) (F := fun n ls k => g75l0K (fun m204 m205 m206 m207 m208 m209 v210 m212 a213 m214 a215 k221 k222 v211 => g75l0 m204 m205 m206 m207 m208 m209 v210 m212 a213 m214 a215 k221 k222 n v211) ls k) tabOk (g75Calls m) mixed (loopsOk_of _ (fun p hp => by rw [show loopsOf (bodyAt Go.Proofs.Try.f75 0) = [] by kernel_rfl] at hp; cases hp))
    (fun _ _ => rfl) (fun n ls k => g75l0Step (g75l0M m) (fun m204 m205 m206 m207 m208 m209 v210 m212 a213 m214 a215 k221 k222 => g75l0 m204 m205 m206 m207 m208 m209 v210 m212 a213 m214 a215 k221 k222 n) ls k) (n := m) h
theorem g75Fn (m : Nat) : FnOk Go.Proofs.Try.prog 75 g75tp g75bp (fun {α} => g75K (g75 (α := α) m)) :=
  fn_ok (tab := tab) (h := g75h m) (fn := Go.Proofs.Try.f75) (F := fun {α} => g75K (g75 (α := α) m)) tabOk (g75Calls m) mixed (by kernel_rfl) (by kernel_rfl) (fun c hc => by
    rw [bodyOf_some hc]
    exact loopsOk_of _ (fun p hp => by
    rw [show loopsOf (bodyOf Go.Proofs.Try.f75) = [(0, bodyAt Go.Proofs.Try.f75 0)] by kernel_rfl] at hp
    simp only [List.mem_cons, List.not_mem_nil, or_false] at hp
    rcases hp with rfl
    exact g75l0Ok m))
    (fun α ls k => g75Main (g75l0M m) ls k)
theorem g75Ok (m : Nat) : RowOk Go.Proofs.Try.prog 75 (fun {α} => rowK g75tp g75bp (g75K (g75 (α := α) m))) := row_of (g75Fn m)

/-! ### g38: impl.SameStream -/
def g38b {α : Type} (G_g75 : {α : Type} → Nat → Nat → Nat → Nat → Nat → Nat → Nat → (List Int) → Nat → (List Int) → (Bool → Option α) → Option α)  (m173 : Nat) (m174 : Nat) (m175 : Nat) (m176 : Nat) (m177 : Nat) (m178 : Nat) (m179 : Nat) (m180 : Nat) (m181 : Nat) (m182 : Nat) (m183 : Nat) (m184 : Nat) (m185 : Nat) (u186 : List Int) (m187 : Nat) (u188 : List Int) (m189 : Nat) (u190 : List Int) (m191 : Nat) (u192 : List Int) (k227 : Bool → Option α) : Option α :=
  G_g75 m173 m174 m175 m179 m180 m181 m185 u186 m189 u190
    (fun b225 =>
      cond b225
       (
        G_g75 m176 m177 m178 m182 m183 m184 m187 u188 m191 u192
          (fun b226 =>
            k227 b226))
       (
        k227 false))
def g38 {α : Type} (m : Nat) : Nat → Nat → Nat → Nat → Nat → Nat → Nat → Nat → Nat → Nat → Nat → Nat → Nat → (List Int) → Nat → (List Int) → Nat → (List Int) → Nat → (List Int) → (Bool → Option α) → Option α :=
  g38b (g75 m)
def g38tp : List TP := [(.vl (.agg [(.one (.slc 0 0 1)), (.one (.slc 1 0 1))])), (.vl (.agg [(.one (.slc 2 0 1)), (.one (.slc 3 0 1))]))]
def g38bp : List BP := [(false, [(.seqv (.int .i8))]), (false, [(.seqv (.int .i8))]), (false, [(.seqv (.int .i8))]), (false, [(.seqv (.int .i8))])]
def g38K {α : Type} (G : Nat → Nat → Nat → Nat → Nat → Nat → Nat → Nat → Nat → Nat → Nat → Nat → Nat → (List Int) → Nat → (List Int) → Nat → (List Int) → Nat → (List Int) → (Bool → Option α) → Option α) (ls : List Lf) (k : TV → List (List Seg) → List (List Seg) → Option α) : Option α :=
  G (lf ls 0).nat (lf ls 1).nat (lf ls 2).nat (lf ls 3).nat (lf ls 4).nat (lf ls 5).nat (lf ls 6).nat (lf ls 7).nat (lf ls 8).nat (lf ls 9).nat (lf ls 10).nat (lf ls 11).nat (lf ls 12).nat ((lf ls 13).lst (.int .i8)) (lf ls 14).nat ((lf ls 15).lst (.int .i8)) (lf ls 16).nat ((lf ls 17).lst (.int .i8)) (lf ls 18).nat ((lf ls 19).lst (.int .i8))
    (fun y0 => k (.vl (.sv (.bool y0))) [[(.seq (.int .i8) (lf ls 12).nat ((lf ls 13).lst (.int .i8)))], [(.seq (.int .i8) (lf ls 14).nat ((lf ls 15).lst (.int .i8)))], [(.seq (.int .i8) (lf ls 16).nat ((lf ls 17).lst (.int .i8)))], [(.seq (.int .i8) (lf ls 18).nat ((lf ls 19).lst (.int .i8)))]] [])
def g38hd (G_g75 : {α : Type} → Nat → Nat → Nat → Nat → Nat → Nat → Nat → (List Int) → Nat → (List Int) → (Bool → Option α) → Option α)  : Hd where
  call := fun f args Bs k => cond (Nat.beq f 75) (rowK g75tp g75bp (g75K G_g75) args Bs k) (none)
  loop := fun id st k => none
  ro := fun f => cond (Nat.beq f 75) [0, 1] ([])
def g38h (m : Nat) : Hd := g38hd (g75 m)
theorem g38Main (G_g75 : {α : Type} → Nat → Nat → Nat → Nat → Nat → Nat → Nat → (List Int) → Nat → (List Int) → (Bool → Option α) → Option α)  {α : Type} (ls : List Lf) (k : TV → List (List Seg) → List (List Seg) → Option α) :
    g38K (g38b G_g75) ls k = evFun tab (g38hd G_g75) Go.Proofs.Try.f38 (fillT g38tp ls).1 (fillB g38bp (fillT g38tp ls).2).1 k := by kernel_rfl
theorem g38Calls (m : Nat) : (g38h m).CallsOk Go.Proofs.Try.prog := (cok_cons (g75Ok m) cok_nil)
theorem g38Fn (m : Nat) : FnOk Go.Proofs.Try.prog 38 g38tp g38bp (fun {α} => g38K (g38 (α := α) m)) :=
  fn_ok (tab := tab) (h := g38h m) (fn := Go.Proofs.Try.f38) (F := fun {α} => g38K (g38 (α := α) m)) tabOk (g38Calls m) mixed (by kernel_rfl) (by kernel_rfl) (fun c hc => by
    rw [bodyOf_some hc]
    exact loopsOk_of _ (fun p hp => by rw [show loopsOf (bodyOf Go.Proofs.Try.f38) = [] by kernel_rfl] at hp; cases hp))
    (fun α ls k => g38Main (g75 m) ls k)
theorem g38Ok (m : Nat) : RowOk Go.Proofs.Try.prog 38 (fun {α} => rowK g38tp g38bp (g38K (g38 (α := α) m))) := row_of (g38Fn m)

/-! ### g54: laws.eqInt8S -/
def g54l0b {α : Type}   (m263 : Nat) (m264 : Nat) (m265 : Nat) (m266 : Nat) (m267 : Nat) (m268 : Nat) (m270 : Nat) (a271 : List Int) (m272 : Nat) (a273 : List Int) (k279 : Option α) (k280 : Option α) (r281 : Int → Option α) (v269 : Int) : Option α :=
  cond (decide (v269 < ((m264 : Nat) : Int)))
   (
    if 0 ≤ v269 ∧ v269 < (m264 : Nat) then
      if (m263 + v269.toNat) < m270 then
        if 0 ≤ v269 ∧ v269 < (m267 : Nat) then
          if (m266 + v269.toNat) < m272 then
            cond ((List.getD a271 (m263 + v269.toNat) 0) != (List.getD a273 (m266 + v269.toNat) 0))
             (
              k279)
             (
              r281 (IntKind.wrap .i64 (v269 + (1 : Int))))
          else
            none
        else
          none
      else
        none
    else
      none)
   (
    k280)
def g54l0 {α : Type}   (m263 : Nat) (m264 : Nat) (m265 : Nat) (m266 : Nat) (m267 : Nat) (m268 : Nat) (m270 : Nat) (a271 : List Int) (m272 : Nat) (a273 : List Int) (k279 : Option α) (k280 : Option α) : Nat → Int → Option α
  | 0 => fun _ => none
  | m + 1 => fun v269 => g54l0b m263 m264 m265 m266 m267 m268 m270 a271 m272 a273 k279 k280 (g54l0 m263 m264 m265 m266 m267 m268 m270 a271 m272 a273 k279 k280 m) v269
def g54l0M {α : Type} (m : Nat) : Nat → Nat → Nat → Nat → Nat → Nat → Nat → (List Int) → Nat → (List Int) → (Option α) → (Option α) → Int → Option α :=
  fun m263 m264 m265 m266 m267 m268 m270 a271 m272 a273 k279 k280 v269 => g54l0 m263 m264 m265 m266 m267 m268 m270 a271 m272 a273 k279 k280 m v269
def g54l0D : LoopD := { n := 26, sl := [0, 1, 5], bl := [0, 1], tp := [(.vl (.sv (.slc 0 0 1))), (.vl (.sv (.slc 1 0 1))), (.vl (.sv (.int .i64)))], bp := [(false, [(.seqv (.int .i8))]), (false, [(.seqv (.int .i8))])], xs := [(1, [4], [0, 1]), (2, [], [0, 1])] }
def g54l0K {α : Type} (L : Nat → Nat → Nat → Nat → Nat → Nat → Nat → (List Int) → Nat → (List Int) → (Option α) → (Option α) → Int → Option α) (ls : List Lf) (k : Ex → St → Option α) : Option α :=
  L (lf ls 0).nat (lf ls 1).nat (lf ls 2).nat (lf ls 3).nat (lf ls 4).nat (lf ls 5).nat (lf ls 7).nat ((lf ls 8).lst (.int .i8)) (lf ls 9).nat ((lf ls 10).lst (.int .i8))
    (k .ret (mkSt 26 [4] [(.vl (.sv (.bool false)))] [0, 1] [(false, [(.seq (.int .i8) (lf ls 7).nat ((lf ls 8).lst (.int .i8)))]), (false, [(.seq (.int .i8) (lf ls 9).nat ((lf ls 10).lst (.int .i8)))])]))
    (k .normal (mkSt 26 [] [] [0, 1] [(false, [(.seq (.int .i8) (lf ls 7).nat ((lf ls 8).lst (.int .i8)))]), (false, [(.seq (.int .i8) (lf ls 9).nat ((lf ls 10).lst (.int .i8)))])]))
    (lf ls 6).int
def g54b {α : Type}  (L_g54l0 : {α : Type} → Nat → Nat → Nat → Nat → Nat → Nat → Nat → (List Int) → Nat → (List Int) → (Option α) → (Option α) → Int → Option α) (m252 : Nat) (m253 : Nat) (m254 : Nat) (m255 : Nat) (m256 : Nat) (m257 : Nat) (m258 : Nat) (u259 : List Int) (m260 : Nat) (u261 : List Int) (k282 : Bool → Option α) : Option α :=
  cond (((m253 : Nat) : Int) != ((m256 : Nat) : Int))
   (
    k282 false)
   (
    L_g54l0 m252 m253 m254 m255 m256 m257 m258 u259 m260 u261
      (
        k282 false)
      (
        k282 true)
      (0 : Int))
def g54 {α : Type} (m : Nat) : Nat → Nat → Nat → Nat → Nat → Nat → Nat → (List Int) → Nat → (List Int) → (Bool → Option α) → Option α :=
  g54b (g54l0M m)
def g54tp : List TP := [(.vl (.sv (.slc 0 0 1))), (.vl (.sv (.slc 1 0 1)))]
def g54bp : List BP := [(false, [(.seqv (.int .i8))]), (false, [(.seqv (.int .i8))])]
def g54K {α : Type} (G : Nat → Nat → Nat → Nat → Nat → Nat → Nat → (List Int) → Nat → (List Int) → (Bool → Option α) → Option α) (ls : List Lf) (k : TV → List (List Seg) → List (List Seg) → Option α) : Option α :=
  G (lf ls 0).nat (lf ls 1).nat (lf ls 2).nat (lf ls 3).nat (lf ls 4).nat (lf ls 5).nat (lf ls 6).nat ((lf ls 7).lst (.int .i8)) (lf ls 8).nat ((lf ls 9).lst (.int .i8))
    (fun y0 => k (.vl (.sv (.bool y0))) [[(.seq (.int .i8) (lf ls 6).nat ((lf ls 7).lst (.int .i8)))], [(.seq (.int .i8) (lf ls 8).nat ((lf ls 9).lst (.int .i8)))]] [])
def g54hd  (L_g54l0 : {α : Type} → Nat → Nat → Nat → Nat → Nat → Nat → Nat → (List Int) → Nat → (List Int) → (Option α) → (Option α) → Int → Option α) : Hd where
  call := fun f args Bs k => none
  loop := fun id st k => cond (Nat.beq id 0) (loopH g54l0D (g54l0K L_g54l0) st k) (none)
  ro := fun f => []
def g54h (m : Nat) : Hd := g54hd (g54l0M m)
theorem g54l0Step  (L_g54l0 : {α : Type} → Nat → Nat → Nat → Nat → Nat → Nat → Nat → (List Int) → Nat → (List Int) → (Option α) → (Option α) → Int → Option α) {α : Type} (L : Nat → Nat → Nat → Nat → Nat → Nat → Nat → (List Int) → Nat → (List Int) → (Option α) → (Option α) → Int → Option α) (ls : List Lf) (k : Ex → St → Option α) :
    g54l0K (fun m263 m264 m265 m266 m267 m268 m270 a271 m272 a273 k279 k280 v269 => g54l0b m263 m264 m265 m266 m267 m268 m270 a271 m272 a273 k279 k280 (L m263 m264 m265 m266 m267 m268 m270 a271 m272 a273 k279 k280) v269) ls k = ev tab (g54hd L_g54l0) (bodyAt Go.Proofs.Try.f54 0) (atHead g54l0D ls) (loopK g54l0D 0 (loopH g54l0D (g54l0K L)) k) := by kernel_rfl
theorem g54Main  (L_g54l0 : {α : Type} → Nat → Nat → Nat → Nat → Nat → Nat → Nat → (List Int) → Nat → (List Int) → (Option α) → (Option α) → Int → Option α) {α : Type} (ls : List Lf) (k : TV → List (List Seg) → List (List Seg) → Option α) :
    g54K (g54b L_g54l0) ls k = evFun tab (g54hd L_g54l0) Go.Proofs.Try.f54 (fillT g54tp ls).1 (fillB g54bp (fillT g54tp ls).2).1 k := by kernel_rfl
theorem g54Calls (m : Nat) : (g54h m).CallsOk Go.Proofs.Try.prog := cok_nil
theorem g54l0Ok (m : Nat) (α : Type) (st : St) (k : Ex → St → Option α) (r : α) (h : (g54h m).loop 0 st k = some r) :
    ∃ e st', k e st' = some r ∧ CodeS Go.Proofs.Try.prog (.block 0 (.loop (bodyAt Go.Proofs.Try.f54 0))) st e st' :=
  loop_ok (tab := tab) (h := g54h m) (F := fun n ls k => g54l0K (fun m263 m264 m265 m266 m267 m268 m270 a271 m272 a273 k279 k280 v269 => g54l0 m263 m264 m265 m266 m267 m268 m270 a271 m272 a273 k279 k280 n v269) ls k) tabOk (g54Calls m) mixed (loopsOk_of _ (fun p hp => by rw [show loopsOf (bodyAt Go.Proofs.Try.f54 0) = [] by kernel_rfl] at hp; cases hp))
    (fun _ _ => rfl) (fun n ls k => g54l0Step (g54l0M m) (fun m263 m264 m265 m266 m267 m268 m270 a271 m272 a273 k279 k280 => g54l0 m263 m264 m265 m266 m267 m268 m270 a271 m272 a273 k279 k280 n) ls k) (n := m) h
theorem g54Fn (m : Nat) : FnOk Go.Proofs.Try.prog 54 g54tp g54bp (fun {α} => g54K (g54 (α := α) m)) :=
  fn_ok (tab := tab) (h := g54h m) (fn := Go.Proofs.Try.f54) (F := fun {α} => g54K (g54 (α := α) m)) tabOk (g54Calls m) mixed (by kernel_rfl) (by kernel_rfl) (fun c hc => by
    rw [bodyOf_some hc]
    exact loopsOk_of _ (fun p hp => by
    rw [show loopsOf (bodyOf Go.Proofs.Try.f54) = [(0, bodyAt Go.Proofs.Try.f54 0)] by kernel_rfl] at hp
    simp only [List.mem_cons, List.not_mem_nil, or_false] at hp
    rcases hp with rfl
    exact g54l0Ok m))
    (fun α ls k => g54Main (g54l0M m) ls k)
theorem g54Ok (m : Nat) : RowOk Go.Proofs.Try.prog 54 (fun {α} => rowK g54tp g54bp (g54K (g54 (α := α) m))) := row_of (g54Fn m)

/-! ### g39: laws.eqStream -/
def g39b {α : Type} (G_g54 : {α : Type} → Nat → Nat → Nat → Nat → Nat → Nat → Nat → (List Int) → Nat → (List Int) → (Bool → Option α) → Option α)  (m232 : Nat) (m233 : Nat) (m234 : Nat) (m235 : Nat) (m236 : Nat) (m237 : Nat) (m238 : Nat) (m239 : Nat) (m240 : Nat) (m241 : Nat) (m242 : Nat) (m243 : Nat) (m244 : Nat) (u245 : List Int) (m246 : Nat) (u247 : List Int) (m248 : Nat) (u249 : List Int) (m250 : Nat) (u251 : List Int) (k287 : Bool → Option α) : Option α :=
  G_g54 m232 m233 m234 m238 m239 m240 m244 u245 m248 u249
    (fun b283 =>
      cond (!b283)
       (
        k287 false)
       (
        G_g54 m235 m236 m237 m241 m242 m243 m246 u247 m250 u251
          (fun b285 =>
            cond (!b285)
             (
              k287 false)
             (
              k287 true))))
def g39 {α : Type} (m : Nat) : Nat → Nat → Nat → Nat → Nat → Nat → Nat → Nat → Nat → Nat → Nat → Nat → Nat → (List Int) → Nat → (List Int) → Nat → (List Int) → Nat → (List Int) → (Bool → Option α) → Option α :=
  g39b (g54 m)
def g39tp : List TP := [(.vl (.agg [(.one (.slc 0 0 1)), (.one (.slc 1 0 1))])), (.vl (.agg [(.one (.slc 2 0 1)), (.one (.slc 3 0 1))]))]
def g39bp : List BP := [(false, [(.seqv (.int .i8))]), (false, [(.seqv (.int .i8))]), (false, [(.seqv (.int .i8))]), (false, [(.seqv (.int .i8))])]
def g39K {α : Type} (G : Nat → Nat → Nat → Nat → Nat → Nat → Nat → Nat → Nat → Nat → Nat → Nat → Nat → (List Int) → Nat → (List Int) → Nat → (List Int) → Nat → (List Int) → (Bool → Option α) → Option α) (ls : List Lf) (k : TV → List (List Seg) → List (List Seg) → Option α) : Option α :=
  G (lf ls 0).nat (lf ls 1).nat (lf ls 2).nat (lf ls 3).nat (lf ls 4).nat (lf ls 5).nat (lf ls 6).nat (lf ls 7).nat (lf ls 8).nat (lf ls 9).nat (lf ls 10).nat (lf ls 11).nat (lf ls 12).nat ((lf ls 13).lst (.int .i8)) (lf ls 14).nat ((lf ls 15).lst (.int .i8)) (lf ls 16).nat ((lf ls 17).lst (.int .i8)) (lf ls 18).nat ((lf ls 19).lst (.int .i8))
    (fun y0 => k (.vl (.sv (.bool y0))) [[(.seq (.int .i8) (lf ls 12).nat ((lf ls 13).lst (.int .i8)))], [(.seq (.int .i8) (lf ls 14).nat ((lf ls 15).lst (.int .i8)))], [(.seq (.int .i8) (lf ls 16).nat ((lf ls 17).lst (.int .i8)))], [(.seq (.int .i8) (lf ls 18).nat ((lf ls 19).lst (.int .i8)))]] [])
def g39hd (G_g54 : {α : Type} → Nat → Nat → Nat → Nat → Nat → Nat → Nat → (List Int) → Nat → (List Int) → (Bool → Option α) → Option α)  : Hd where
  call := fun f args Bs k => cond (Nat.beq f 54) (rowK g54tp g54bp (g54K G_g54) args Bs k) (none)
  loop := fun id st k => none
  ro := fun f => cond (Nat.beq f 54) [0, 1] ([])
def g39h (m : Nat) : Hd := g39hd (g54 m)
theorem g39Main (G_g54 : {α : Type} → Nat → Nat → Nat → Nat → Nat → Nat → Nat → (List Int) → Nat → (List Int) → (Bool → Option α) → Option α)  {α : Type} (ls : List Lf) (k : TV → List (List Seg) → List (List Seg) → Option α) :
    g39K (g39b G_g54) ls k = evFun tab (g39hd G_g54) Go.Proofs.Try.f39 (fillT g39tp ls).1 (fillB g39bp (fillT g39tp ls).2).1 k := by kernel_rfl
theorem g39Calls (m : Nat) : (g39h m).CallsOk Go.Proofs.Try.prog := (cok_cons (g54Ok m) cok_nil)
theorem g39Fn (m : Nat) : FnOk Go.Proofs.Try.prog 39 g39tp g39bp (fun {α} => g39K (g39 (α := α) m)) :=
  fn_ok (tab := tab) (h := g39h m) (fn := Go.Proofs.Try.f39) (F := fun {α} => g39K (g39 (α := α) m)) tabOk (g39Calls m) mixed (by kernel_rfl) (by kernel_rfl) (fun c hc => by
    rw [bodyOf_some hc]
    exact loopsOk_of _ (fun p hp => by rw [show loopsOf (bodyOf Go.Proofs.Try.f39) = [] by kernel_rfl] at hp; cases hp))
    (fun α ls k => g39Main (g54 m) ls k)
theorem g39Ok (m : Nat) : RowOk Go.Proofs.Try.prog 39 (fun {α} => rowK g39tp g39bp (g39K (g39 (α := α) m))) := row_of (g39Fn m)

/-! ### g10: laws.FnExactSameStream -/
def g10b {α : Type} (G_g35 : {α : Type} → Nat → Nat → Nat → Nat → Nat → Nat → Int → Nat → (List Int) → Nat → (List Int) → (Int → Option α) → Option α) (G_g37 : {α : Type} → Nat → Nat → Nat → Nat → Nat → Nat → Nat → (List Int) → Nat → (List Int) → ((List Int) → (List Int) → Option α) → Option α) (G_g36 : {α : Type} → Nat → Nat → Nat → Nat → Nat → Nat → Nat → Nat → Nat → Nat → Nat → Nat → Nat → (List Int) → Nat → (List Int) → Nat → (List Int) → Nat → (List Int) → (Bool → Option α) → Option α) (G_g38 : {α : Type} → Nat → Nat → Nat → Nat → Nat → Nat → Nat → Nat → Nat → Nat → Nat → Nat → Nat → (List Int) → Nat → (List Int) → Nat → (List Int) → Nat → (List Int) → (Bool → Option α) → Option α) (G_g39 : {α : Type} → Nat → Nat → Nat → Nat → Nat → Nat → Nat → Nat → Nat → Nat → Nat → Nat → Nat → (List Int) → Nat → (List Int) → Nat → (List Int) → Nat → (List Int) → (Bool → Option α) → Option α)  (m1 : Nat) (m2 : Nat) (m3 : Nat) (m4 : Nat) (m5 : Nat) (m6 : Nat) (m7 : Nat) (m8 : Nat) (m9 : Nat) (m10 : Nat) (m11 : Nat) (m12 : Nat) (m13 : Nat) (u14 : List Int) (m15 : Nat) (u16 : List Int) (m17 : Nat) (u18 : List Int) (m19 : Nat) (u20 : List Int) (k294 : Bool → Option α) : Option α :=
  G_g35 m1 m2 m3 m4 m5 m6 (1048576 : Int) m13 u14 m15 u16
    (fun x46 =>
      cond (decide (x46 < (0 : Int)))
       (
        k294 true)
       (
        G_g35 m7 m8 m9 m10 m11 m12 x46 m17 u18 m19 u20
          (fun x48 =>
            cond (decide (x48 < (0 : Int)))
             (
              k294 true)
             (
              G_g37 m1 m2 m3 m4 m5 m6 m13 u14 m15 u16
                (fun l88 l89 =>
                  G_g37 m7 m8 m9 m10 m11 m12 m17 u18 m19 u20
                    (fun l90 l91 =>
                      G_g36 0 m2 m2 0 m5 m5 0 m8 m8 0 m11 m11 m2 l88 m5 l89 m8 l90 m11 l91
                        (fun b168 =>
                          G_g37 m1 m2 m3 m4 m5 m6 m13 u14 m15 u16
                            (fun l169 l170 =>
                              G_g37 m7 m8 m9 m10 m11 m12 m17 u18 m19 u20
                                (fun l171 l172 =>
                                  G_g38 0 m2 m2 0 m5 m5 0 m8 m8 0 m11 m11 m2 l169 m5 l170 m8 l171 m11 l172
                                    (fun b228 =>
                                      cond (!(b228 == b168))
                                       (
                                        k294 false)
                                       (
                                        G_g37 m1 m2 m3 m4 m5 m6 m13 u14 m15 u16
                                          (fun l230 l231 =>
                                            G_g39 0 m2 m2 0 m5 m5 0 m2 m2 0 m5 m5 m2 l169 m5 l170 m2 l230 m5 l231
                                              (fun b288 =>
                                                cond (!b288)
                                                 (
                                                  k294 false)
                                                 (
                                                  G_g37 m7 m8 m9 m10 m11 m12 m17 u18 m19 u20
                                                    (fun l290 l291 =>
                                                      G_g39 0 m8 m8 0 m11 m11 0 m8 m8 0 m11 m11 m8 l171 m11 l172 m8 l290 m11 l291
                                                        (fun b292 =>
                                                          cond (!b292)
                                                           (
                                                            k294 false)
                                                           (
                                                            k294 true)))))))))))))))))
def g10 {α : Type} (m : Nat) : Nat → Nat → Nat → Nat → Nat → Nat → Nat → Nat → Nat → Nat → Nat → Nat → Nat → (List Int) → Nat → (List Int) → Nat → (List Int) → Nat → (List Int) → (Bool → Option α) → Option α :=
  g10b (g35 m) (g37 m) (g36 m) (g38 m) (g39 m)
def g10tp : List TP := [(.vl (.agg [(.one (.slc 0 0 1)), (.one (.slc 1 0 1))])), (.vl (.agg [(.one (.slc 2 0 1)), (.one (.slc 3 0 1))]))]
def g10bp : List BP := [(false, [(.seqv (.int .i8))]), (false, [(.seqv (.int .i8))]), (false, [(.seqv (.int .i8))]), (false, [(.seqv (.int .i8))])]
def g10K {α : Type} (G : Nat → Nat → Nat → Nat → Nat → Nat → Nat → Nat → Nat → Nat → Nat → Nat → Nat → (List Int) → Nat → (List Int) → Nat → (List Int) → Nat → (List Int) → (Bool → Option α) → Option α) (ls : List Lf) (k : TV → List (List Seg) → List (List Seg) → Option α) : Option α :=
  G (lf ls 0).nat (lf ls 1).nat (lf ls 2).nat (lf ls 3).nat (lf ls 4).nat (lf ls 5).nat (lf ls 6).nat (lf ls 7).nat (lf ls 8).nat (lf ls 9).nat (lf ls 10).nat (lf ls 11).nat (lf ls 12).nat ((lf ls 13).lst (.int .i8)) (lf ls 14).nat ((lf ls 15).lst (.int .i8)) (lf ls 16).nat ((lf ls 17).lst (.int .i8)) (lf ls 18).nat ((lf ls 19).lst (.int .i8))
    (fun y0 => k (.vl (.sv (.bool y0))) [[(.seq (.int .i8) (lf ls 12).nat ((lf ls 13).lst (.int .i8)))], [(.seq (.int .i8) (lf ls 14).nat ((lf ls 15).lst (.int .i8)))], [(.seq (.int .i8) (lf ls 16).nat ((lf ls 17).lst (.int .i8)))], [(.seq (.int .i8) (lf ls 18).nat ((lf ls 19).lst (.int .i8)))]] [])
def g10hd (G_g35 : {α : Type} → Nat → Nat → Nat → Nat → Nat → Nat → Int → Nat → (List Int) → Nat → (List Int) → (Int → Option α) → Option α) (G_g37 : {α : Type} → Nat → Nat → Nat → Nat → Nat → Nat → Nat → (List Int) → Nat → (List Int) → ((List Int) → (List Int) → Option α) → Option α) (G_g36 : {α : Type} → Nat → Nat → Nat → Nat → Nat → Nat → Nat → Nat → Nat → Nat → Nat → Nat → Nat → (List Int) → Nat → (List Int) → Nat → (List Int) → Nat → (List Int) → (Bool → Option α) → Option α) (G_g38 : {α : Type} → Nat → Nat → Nat → Nat → Nat → Nat → Nat → Nat → Nat → Nat → Nat → Nat → Nat → (List Int) → Nat → (List Int) → Nat → (List Int) → Nat → (List Int) → (Bool → Option α) → Option α) (G_g39 : {α : Type} → Nat → Nat → Nat → Nat → Nat → Nat → Nat → Nat → Nat → Nat → Nat → Nat → Nat → (List Int) → Nat → (List Int) → Nat → (List Int) → Nat → (List Int) → (Bool → Option α) → Option α)  : Hd where
  call := fun f args Bs k => cond (Nat.beq f 35) (rowK g35tp g35bp (g35K G_g35) args Bs k) (cond (Nat.beq f 37) (rowK g37tp g37bp (g37K G_g37) args Bs k) (cond (Nat.beq f 36) (rowK g36tp g36bp (g36K G_g36) args Bs k) (cond (Nat.beq f 38) (rowK g38tp g38bp (g38K G_g38) args Bs k) (cond (Nat.beq f 39) (rowK g39tp g39bp (g39K G_g39) args Bs k) (none)))))
  loop := fun id st k => none
  ro := fun f => cond (Nat.beq f 35) [0, 1] (cond (Nat.beq f 36) [0, 1, 2, 3] (cond (Nat.beq f 37) [0, 1] (cond (Nat.beq f 38) [0, 1, 2, 3] (cond (Nat.beq f 39) [0, 1, 2, 3] ([])))))
def g10h (m : Nat) : Hd := g10hd (g35 m) (g37 m) (g36 m) (g38 m) (g39 m)
theorem g10Main (G_g35 : {α : Type} → Nat → Nat → Nat → Nat → Nat → Nat → Int → Nat → (List Int) → Nat → (List Int) → (Int → Option α) → Option α) (G_g37 : {α : Type} → Nat → Nat → Nat → Nat → Nat → Nat → Nat → (List Int) → Nat → (List Int) → ((List Int) → (List Int) → Option α) → Option α) (G_g36 : {α : Type} → Nat → Nat → Nat → Nat → Nat → Nat → Nat → Nat → Nat → Nat → Nat → Nat → Nat → (List Int) → Nat → (List Int) → Nat → (List Int) → Nat → (List Int) → (Bool → Option α) → Option α) (G_g38 : {α : Type} → Nat → Nat → Nat → Nat → Nat → Nat → Nat → Nat → Nat → Nat → Nat → Nat → Nat → (List Int) → Nat → (List Int) → Nat → (List Int) → Nat → (List Int) → (Bool → Option α) → Option α) (G_g39 : {α : Type} → Nat → Nat → Nat → Nat → Nat → Nat → Nat → Nat → Nat → Nat → Nat → Nat → Nat → (List Int) → Nat → (List Int) → Nat → (List Int) → Nat → (List Int) → (Bool → Option α) → Option α)  {α : Type} (ls : List Lf) (k : TV → List (List Seg) → List (List Seg) → Option α) :
    g10K (g10b G_g35 G_g37 G_g36 G_g38 G_g39) ls k = evFun tab (g10hd G_g35 G_g37 G_g36 G_g38 G_g39) Go.Proofs.Try.f10 (fillT g10tp ls).1 (fillB g10bp (fillT g10tp ls).2).1 k := by kernel_rfl
theorem g10Calls (m : Nat) : (g10h m).CallsOk Go.Proofs.Try.prog := (cok_cons (g35Ok m) (cok_cons (g37Ok m) (cok_cons (g36Ok m) (cok_cons (g38Ok m) (cok_cons (g39Ok m) cok_nil)))))
theorem g10Fn (m : Nat) : FnOk Go.Proofs.Try.prog 10 g10tp g10bp (fun {α} => g10K (g10 (α := α) m)) :=
  fn_ok (tab := tab) (h := g10h m) (fn := Go.Proofs.Try.f10) (F := fun {α} => g10K (g10 (α := α) m)) tabOk (g10Calls m) mixed (by kernel_rfl) (by kernel_rfl) (fun c hc => by
    rw [bodyOf_some hc]
    exact loopsOk_of _ (fun p hp => by rw [show loopsOf (bodyOf Go.Proofs.Try.f10) = [] by kernel_rfl] at hp; cases hp))
    (fun α ls k => g10Main (g35 m) (g37 m) (g36 m) (g38 m) (g39 m) ls k)
theorem g10Ok (m : Nat) : RowOk Go.Proofs.Try.prog 10 (fun {α} => rowK g10tp g10bp (g10K (g10 (α := α) m))) := row_of (g10Fn m)

/-! ### g63: spec.l00In -/
def g63b {α : Type}   (p330 : Int) (p331 : Int) (p332 : Int) (k335 : Bool → Option α) : Option α :=
  cond (decide (p330 ≥ p331))
   (
    k335 (decide (p330 ≤ p332)))
   (
    k335 false)
def g63 {α : Type} (m : Nat) : Int → Int → Int → (Bool → Option α) → Option α :=
  g63b
def g63tp : List TP := [(.vl (.sv (.int .i64))), (.vl (.sv (.int .i64))), (.vl (.sv (.int .i64)))]
def g63bp : List BP := []
def g63K {α : Type} (G : Int → Int → Int → (Bool → Option α) → Option α) (ls : List Lf) (k : TV → List (List Seg) → List (List Seg) → Option α) : Option α :=
  G (lf ls 0).int (lf ls 1).int (lf ls 2).int
    (fun y0 => k (.vl (.sv (.bool y0))) [] [])
def g63hd   : Hd where
  call := fun f args Bs k => none
  loop := fun id st k => none
  ro := fun f => []
def g63h (m : Nat) : Hd := g63hd
theorem g63Main   {α : Type} (ls : List Lf) (k : TV → List (List Seg) → List (List Seg) → Option α) :
    g63K (g63b) ls k = evFun tab (g63hd) Go.Proofs.Try.f63 (fillT g63tp ls).1 (fillB g63bp (fillT g63tp ls).2).1 k := by kernel_rfl
theorem g63Calls (m : Nat) : (g63h m).CallsOk Go.Proofs.Try.prog := cok_nil
theorem g63Fn (m : Nat) : FnOk Go.Proofs.Try.prog 63 g63tp g63bp (fun {α} => g63K (g63 (α := α) m)) :=
  fn_ok (tab := tab) (h := g63h m) (fn := Go.Proofs.Try.f63) (F := fun {α} => g63K (g63 (α := α) m)) tabOk (g63Calls m) mixed (by kernel_rfl) (by kernel_rfl) (fun c hc => by
    rw [bodyOf_some hc]
    exact loopsOk_of _ (fun p hp => by rw [show loopsOf (bodyOf Go.Proofs.Try.f63) = [] by kernel_rfl] at hp; cases hp))
    (fun α ls k => g63Main ls k)
theorem g63Ok (m : Nat) : RowOk Go.Proofs.Try.prog 63 (fun {α} => rowK g63tp g63bp (g63K (g63 (α := α) m))) := row_of (g63Fn m)

/-! ### g87: spec.l03Digits -/
def g87l0b {α : Type}   (m342 : Nat) (m343 : Nat) (m344 : Nat) (m346 : Nat) (a347 : List Int) (k354 : Option α) (k355 : Option α) (r356 : Int → Option α) (v345 : Int) : Option α :=
  cond (decide (v345 < ((m343 : Nat) : Int)))
   (
    if 0 ≤ v345 ∧ v345 < (m343 : Nat) then
      if (m342 + v345.toNat) < m346 then
        cond (decide ((List.getD a347 (m342 + v345.toNat) 0) < (-1 : Int)))
         (
          k354)
         (
          if 0 ≤ v345 ∧ v345 < (m343 : Nat) then
            if (m342 + v345.toNat) < m346 then
              cond (decide ((List.getD a347 (m342 + v345.toNat) 0) > (1 : Int)))
               (
                k354)
               (
                r356 (IntKind.wrap .i64 (v345 + (1 : Int))))
            else
              none
          else
            none)
      else
        none
    else
      none)
   (
    k355)
def g87l0 {α : Type}   (m342 : Nat) (m343 : Nat) (m344 : Nat) (m346 : Nat) (a347 : List Int) (k354 : Option α) (k355 : Option α) : Nat → Int → Option α
  | 0 => fun _ => none
  | m + 1 => fun v345 => g87l0b m342 m343 m344 m346 a347 k354 k355 (g87l0 m342 m343 m344 m346 a347 k354 k355 m) v345
def g87l0M {α : Type} (m : Nat) : Nat → Nat → Nat → Nat → (List Int) → (Option α) → (Option α) → Int → Option α :=
  fun m342 m343 m344 m346 a347 k354 k355 v345 => g87l0 m342 m343 m344 m346 a347 k354 k355 m v345
def g87l0D : LoopD := { n := 22, sl := [0, 3], bl := [0], tp := [(.vl (.sv (.slc 0 0 1))), (.vl (.sv (.int .i64)))], bp := [(false, [(.seqv (.int .i8))])], xs := [(1, [2], [0]), (2, [], [0])] }
def g87l0K {α : Type} (L : Nat → Nat → Nat → Nat → (List Int) → (Option α) → (Option α) → Int → Option α) (ls : List Lf) (k : Ex → St → Option α) : Option α :=
  L (lf ls 0).nat (lf ls 1).nat (lf ls 2).nat (lf ls 4).nat ((lf ls 5).lst (.int .i8))
    (k .ret (mkSt 22 [2] [(.vl (.sv (.bool false)))] [0] [(false, [(.seq (.int .i8) (lf ls 4).nat ((lf ls 5).lst (.int .i8)))])]))
    (k .normal (mkSt 22 [] [] [0] [(false, [(.seq (.int .i8) (lf ls 4).nat ((lf ls 5).lst (.int .i8)))])]))
    (lf ls 3).int
def g87b {α : Type}  (L_g87l0 : {α : Type} → Nat → Nat → Nat → Nat → (List Int) → (Option α) → (Option α) → Int → Option α) (m337 : Nat) (m338 : Nat) (m339 : Nat) (m340 : Nat) (u341 : List Int) (k357 : Bool → Option α) : Option α :=
  L_g87l0 m337 m338 m339 m340 u341
    (
      k357 false)
    (
      k357 true)
    (0 : Int)
def g87 {α : Type} (m : Nat) : Nat → Nat → Nat → Nat → (List Int) → (Bool → Option α) → Option α :=
  g87b (g87l0M m)
def g87tp : List TP := [(.vl (.sv (.slc 0 0 1)))]
def g87bp : List BP := [(false, [(.seqv (.int .i8))])]
def g87K {α : Type} (G : Nat → Nat → Nat → Nat → (List Int) → (Bool → Option α) → Option α) (ls : List Lf) (k : TV → List (List Seg) → List (List Seg) → Option α) : Option α :=
  G (lf ls 0).nat (lf ls 1).nat (lf ls 2).nat (lf ls 3).nat ((lf ls 4).lst (.int .i8))
    (fun y0 => k (.vl (.sv (.bool y0))) [[(.seq (.int .i8) (lf ls 3).nat ((lf ls 4).lst (.int .i8)))]] [])
def g87hd  (L_g87l0 : {α : Type} → Nat → Nat → Nat → Nat → (List Int) → (Option α) → (Option α) → Int → Option α) : Hd where
  call := fun f args Bs k => none
  loop := fun id st k => cond (Nat.beq id 0) (loopH g87l0D (g87l0K L_g87l0) st k) (none)
  ro := fun f => []
def g87h (m : Nat) : Hd := g87hd (g87l0M m)
theorem g87l0Step  (L_g87l0 : {α : Type} → Nat → Nat → Nat → Nat → (List Int) → (Option α) → (Option α) → Int → Option α) {α : Type} (L : Nat → Nat → Nat → Nat → (List Int) → (Option α) → (Option α) → Int → Option α) (ls : List Lf) (k : Ex → St → Option α) :
    g87l0K (fun m342 m343 m344 m346 a347 k354 k355 v345 => g87l0b m342 m343 m344 m346 a347 k354 k355 (L m342 m343 m344 m346 a347 k354 k355) v345) ls k = ev tab (g87hd L_g87l0) (bodyAt Go.Proofs.Try.f87 0) (atHead g87l0D ls) (loopK g87l0D 0 (loopH g87l0D (g87l0K L)) k) := by kernel_rfl
theorem g87Main  (L_g87l0 : {α : Type} → Nat → Nat → Nat → Nat → (List Int) → (Option α) → (Option α) → Int → Option α) {α : Type} (ls : List Lf) (k : TV → List (List Seg) → List (List Seg) → Option α) :
    g87K (g87b L_g87l0) ls k = evFun tab (g87hd L_g87l0) Go.Proofs.Try.f87 (fillT g87tp ls).1 (fillB g87bp (fillT g87tp ls).2).1 k := by kernel_rfl
theorem g87Calls (m : Nat) : (g87h m).CallsOk Go.Proofs.Try.prog := cok_nil
theorem g87l0Ok (m : Nat) (α : Type) (st : St) (k : Ex → St → Option α) (r : α) (h : (g87h m).loop 0 st k = some r) :
    ∃ e st', k e st' = some r ∧ CodeS Go.Proofs.Try.prog (.block 0 (.loop (bodyAt Go.Proofs.Try.f87 0))) st e st' :=
  loop_ok (tab := tab) (h := g87h m) (F := fun n ls k => g87l0K (fun m342 m343 m344 m346 a347 k354 k355 v345 => g87l0 m342 m343 m344 m346 a347 k354 k355 n v345) ls k) tabOk (g87Calls m) mixed (loopsOk_of _ (fun p hp => by rw [show loopsOf (bodyAt Go.Proofs.Try.f87 0) = [] by kernel_rfl] at hp; cases hp))
    (fun _ _ => rfl) (fun n ls k => g87l0Step (g87l0M m) (fun m342 m343 m344 m346 a347 k354 k355 => g87l0 m342 m343 m344 m346 a347 k354 k355 n) ls k) (n := m) h
theorem g87Fn (m : Nat) : FnOk Go.Proofs.Try.prog 87 g87tp g87bp (fun {α} => g87K (g87 (α := α) m)) :=
  fn_ok (tab := tab) (h := g87h m) (fn := Go.Proofs.Try.f87) (F := fun {α} => g87K (g87 (α := α) m)) tabOk (g87Calls m) mixed (by kernel_rfl) (by kernel_rfl) (fun c hc => by
    rw [bodyOf_some hc]
    exact loopsOk_of _ (fun p hp => by
    rw [show loopsOf (bodyOf Go.Proofs.Try.f87) = [(0, bodyAt Go.Proofs.Try.f87 0)] by kernel_rfl] at hp
    simp only [List.mem_cons, List.not_mem_nil, or_false] at hp
    rcases hp with rfl
    exact g87l0Ok m))
    (fun α ls k => g87Main (g87l0M m) ls k)
theorem g87Ok (m : Nat) : RowOk Go.Proofs.Try.prog 87 (fun {α} => rowK g87tp g87bp (g87K (g87 (α := α) m))) := row_of (g87Fn m)

/-! ### g76: spec.l03Ok -/
def g76b {α : Type} (G_g63 : {α : Type} → Int → Int → Int → (Bool → Option α) → Option α) (G_g87 : {α : Type} → Nat → Nat → Nat → Nat → (List Int) → (Bool → Option α) → Option α)  (m319 : Nat) (m320 : Nat) (m321 : Nat) (m322 : Nat) (m323 : Nat) (m324 : Nat) (m325 : Nat) (u326 : List Int) (m327 : Nat) (u328 : List Int) (k360 : Bool → Option α) : Option α :=
  cond (decide (((m320 : Nat) : Int) ≤ (16 : Int)))
   (
    G_g63 ((m323 : Nat) : Int) (1 : Int) (14 : Int)
      (fun b336 =>
        cond b336
         (
          G_g87 m319 m320 m321 m325 u326
            (fun b358 =>
              cond b358
               (
                G_g87 m322 m323 m324 m327 u328
                  (fun b359 =>
                    k360 b359))
               (
                k360 false)))
         (
          k360 false)))
   (
    k360 false)
def g76 {α : Type} (m : Nat) : Nat → Nat → Nat → Nat → Nat → Nat → Nat → (List Int) → Nat → (List Int) → (Bool → Option α) → Option α :=
  g76b (g63 m) (g87 m)
def g76tp : List TP := [(.vl (.sv (.ptr 0 0)))]
def g76bp : List BP := [(false, [(.one (.slc 1 0 1)), (.one (.slc 2 0 1))]), (false, [(.seqv (.int .i8))]), (false, [(.seqv (.int .i8))])]
def g76K {α : Type} (G : Nat → Nat → Nat → Nat → Nat → Nat → Nat → (List Int) → Nat → (List Int) → (Bool → Option α) → Option α) (ls : List Lf) (k : TV → List (List Seg) → List (List Seg) → Option α) : Option α :=
  G (lf ls 0).nat (lf ls 1).nat (lf ls 2).nat (lf ls 3).nat (lf ls 4).nat (lf ls 5).nat (lf ls 6).nat ((lf ls 7).lst (.int .i8)) (lf ls 8).nat ((lf ls 9).lst (.int .i8))
    (fun y0 => k (.vl (.sv (.bool y0))) [[(.one (.slc 1 0 1 (lf ls 0).nat (lf ls 1).nat (lf ls 2).nat)), (.one (.slc 2 0 1 (lf ls 3).nat (lf ls 4).nat (lf ls 5).nat))], [(.seq (.int .i8) (lf ls 6).nat ((lf ls 7).lst (.int .i8)))], [(.seq (.int .i8) (lf ls 8).nat ((lf ls 9).lst (.int .i8)))]] [])
def g76hd (G_g63 : {α : Type} → Int → Int → Int → (Bool → Option α) → Option α) (G_g87 : {α : Type} → Nat → Nat → Nat → Nat → (List Int) → (Bool → Option α) → Option α)  : Hd where
  call := fun f args Bs k => cond (Nat.beq f 63) (rowK g63tp g63bp (g63K G_g63) args Bs k) (cond (Nat.beq f 87) (rowK g87tp g87bp (g87K G_g87) args Bs k) (none))
  loop := fun id st k => none
  ro := fun f => cond (Nat.beq f 87) [0] ([])
def g76h (m : Nat) : Hd := g76hd (g63 m) (g87 m)
theorem g76Main (G_g63 : {α : Type} → Int → Int → Int → (Bool → Option α) → Option α) (G_g87 : {α : Type} → Nat → Nat → Nat → Nat → (List Int) → (Bool → Option α) → Option α)  {α : Type} (ls : List Lf) (k : TV → List (List Seg) → List (List Seg) → Option α) :
    g76K (g76b G_g63 G_g87) ls k = evFun tab (g76hd G_g63 G_g87) Go.Proofs.Try.f76 (fillT g76tp ls).1 (fillB g76bp (fillT g76tp ls).2).1 k := by kernel_rfl
theorem g76Calls (m : Nat) : (g76h m).CallsOk Go.Proofs.Try.prog := (cok_cons (g63Ok m) (cok_cons (g87Ok m) cok_nil))
theorem g76Fn (m : Nat) : FnOk Go.Proofs.Try.prog 76 g76tp g76bp (fun {α} => g76K (g76 (α := α) m)) :=
  fn_ok (tab := tab) (h := g76h m) (fn := Go.Proofs.Try.f76) (F := fun {α} => g76K (g76 (α := α) m)) tabOk (g76Calls m) mixed (by kernel_rfl) (by kernel_rfl) (fun c hc => by
    rw [bodyOf_some hc]
    exact loopsOk_of _ (fun p hp => by rw [show loopsOf (bodyOf Go.Proofs.Try.f76) = [] by kernel_rfl] at hp; cases hp))
    (fun α ls k => g76Main (g63 m) (g87 m) ls k)
theorem g76Ok (m : Nat) : RowOk Go.Proofs.Try.prog 76 (fun {α} => rowK g76tp g76bp (g76K (g76 (α := α) m))) := row_of (g76Fn m)

/-! ### g40: spec.ValidStream -/
def g40b {α : Type} (G_g76 : {α : Type} → Nat → Nat → Nat → Nat → Nat → Nat → Nat → (List Int) → Nat → (List Int) → (Bool → Option α) → Option α)  (m309 : Nat) (m310 : Nat) (m311 : Nat) (m312 : Nat) (m313 : Nat) (m314 : Nat) (m315 : Nat) (u316 : List Int) (m317 : Nat) (u318 : List Int) (k362 : Bool → Option α) : Option α :=
  G_g76 m309 m310 m311 m312 m313 m314 m315 u316 m317 u318
    (fun b361 =>
      k362 b361)
def g40 {α : Type} (m : Nat) : Nat → Nat → Nat → Nat → Nat → Nat → Nat → (List Int) → Nat → (List Int) → (Bool → Option α) → Option α :=
  g40b (g76 m)
def g40tp : List TP := [(.vl (.agg [(.one (.slc 0 0 1)), (.one (.slc 1 0 1))]))]
def g40bp : List BP := [(false, [(.seqv (.int .i8))]), (false, [(.seqv (.int .i8))])]
def g40K {α : Type} (G : Nat → Nat → Nat → Nat → Nat → Nat → Nat → (List Int) → Nat → (List Int) → (Bool → Option α) → Option α) (ls : List Lf) (k : TV → List (List Seg) → List (List Seg) → Option α) : Option α :=
  G (lf ls 0).nat (lf ls 1).nat (lf ls 2).nat (lf ls 3).nat (lf ls 4).nat (lf ls 5).nat (lf ls 6).nat ((lf ls 7).lst (.int .i8)) (lf ls 8).nat ((lf ls 9).lst (.int .i8))
    (fun y0 => k (.vl (.sv (.bool y0))) [[(.seq (.int .i8) (lf ls 6).nat ((lf ls 7).lst (.int .i8)))], [(.seq (.int .i8) (lf ls 8).nat ((lf ls 9).lst (.int .i8)))]] [])
def g40hd (G_g76 : {α : Type} → Nat → Nat → Nat → Nat → Nat → Nat → Nat → (List Int) → Nat → (List Int) → (Bool → Option α) → Option α)  : Hd where
  call := fun f args Bs k => cond (Nat.beq f 76) (rowK g76tp g76bp (g76K G_g76) args Bs k) (none)
  loop := fun id st k => none
  ro := fun f => cond (Nat.beq f 76) [0, 1, 2] ([])
def g40h (m : Nat) : Hd := g40hd (g76 m)
theorem g40Main (G_g76 : {α : Type} → Nat → Nat → Nat → Nat → Nat → Nat → Nat → (List Int) → Nat → (List Int) → (Bool → Option α) → Option α)  {α : Type} (ls : List Lf) (k : TV → List (List Seg) → List (List Seg) → Option α) :
    g40K (g40b G_g76) ls k = evFun tab (g40hd G_g76) Go.Proofs.Try.f40 (fillT g40tp ls).1 (fillB g40bp (fillT g40tp ls).2).1 k := by kernel_rfl
theorem g40Calls (m : Nat) : (g40h m).CallsOk Go.Proofs.Try.prog := (cok_cons (g76Ok m) cok_nil)
theorem g40Fn (m : Nat) : FnOk Go.Proofs.Try.prog 40 g40tp g40bp (fun {α} => g40K (g40 (α := α) m)) :=
  fn_ok (tab := tab) (h := g40h m) (fn := Go.Proofs.Try.f40) (F := fun {α} => g40K (g40 (α := α) m)) tabOk (g40Calls m) mixed (by kernel_rfl) (by kernel_rfl) (fun c hc => by
    rw [bodyOf_some hc]
    exact loopsOk_of _ (fun p hp => by rw [show loopsOf (bodyOf Go.Proofs.Try.f40) = [] by kernel_rfl] at hp; cases hp))
    (fun α ls k => g40Main (g76 m) ls k)
theorem g40Ok (m : Nat) : RowOk Go.Proofs.Try.prog 40 (fun {α} => rowK g40tp g40bp (g40K (g40 (α := α) m))) := row_of (g40Fn m)

/-! ### g90: impl.isDigit -/
def g90b {α : Type}   (p404 : Int) (k407 : Bool → Option α) : Option α :=
  cond (decide (p404 ≥ (-1 : Int)))
   (
    k407 (decide (p404 ≤ (1 : Int))))
   (
    k407 false)
def g90 {α : Type} (m : Nat) : Int → (Bool → Option α) → Option α :=
  g90b
def g90tp : List TP := [(.vl (.sv (.int .i8)))]
def g90bp : List BP := []
def g90K {α : Type} (G : Int → (Bool → Option α) → Option α) (ls : List Lf) (k : TV → List (List Seg) → List (List Seg) → Option α) : Option α :=
  G (lf ls 0).int
    (fun y0 => k (.vl (.sv (.bool y0))) [] [])
def g90hd   : Hd where
  call := fun f args Bs k => none
  loop := fun id st k => none
  ro := fun f => []
def g90h (m : Nat) : Hd := g90hd
theorem g90Main   {α : Type} (ls : List Lf) (k : TV → List (List Seg) → List (List Seg) → Option α) :
    g90K (g90b) ls k = evFun tab (g90hd) Go.Proofs.Try.f90 (fillT g90tp ls).1 (fillB g90bp (fillT g90tp ls).2).1 k := by kernel_rfl
theorem g90Calls (m : Nat) : (g90h m).CallsOk Go.Proofs.Try.prog := cok_nil
theorem g90Fn (m : Nat) : FnOk Go.Proofs.Try.prog 90 g90tp g90bp (fun {α} => g90K (g90 (α := α) m)) :=
  fn_ok (tab := tab) (h := g90h m) (fn := Go.Proofs.Try.f90) (F := fun {α} => g90K (g90 (α := α) m)) tabOk (g90Calls m) mixed (by kernel_rfl) (by kernel_rfl) (fun c hc => by
    rw [bodyOf_some hc]
    exact loopsOk_of _ (fun p hp => by rw [show loopsOf (bodyOf Go.Proofs.Try.f90) = [] by kernel_rfl] at hp; cases hp))
    (fun α ls k => g90Main ls k)
theorem g90Ok (m : Nat) : RowOk Go.Proofs.Try.prog 90 (fun {α} => rowK g90tp g90bp (g90K (g90 (α := α) m))) := row_of (g90Fn m)

/-! ### g89: impl.digitsOk$1 -/
def g89b {α : Type} (G_g90 : {α : Type} → Int → (Bool → Option α) → Option α)  (p403 : Int) (k410 : Bool → Option α) : Option α :=
  G_g90 p403
    (fun b408 =>
      k410 (!b408))
def g89 {α : Type} (m : Nat) : Int → (Bool → Option α) → Option α :=
  g89b (g90 m)
def g89tp : List TP := [(.vl (.sv (.int .i8)))]
def g89bp : List BP := []
def g89K {α : Type} (G : Int → (Bool → Option α) → Option α) (ls : List Lf) (k : TV → List (List Seg) → List (List Seg) → Option α) : Option α :=
  G (lf ls 0).int
    (fun y0 => k (.vl (.sv (.bool y0))) [] [])
def g89hd (G_g90 : {α : Type} → Int → (Bool → Option α) → Option α)  : Hd where
  call := fun f args Bs k => cond (Nat.beq f 90) (rowK g90tp g90bp (g90K G_g90) args Bs k) (none)
  loop := fun id st k => none
  ro := fun f => []
def g89h (m : Nat) : Hd := g89hd (g90 m)
theorem g89Main (G_g90 : {α : Type} → Int → (Bool → Option α) → Option α)  {α : Type} (ls : List Lf) (k : TV → List (List Seg) → List (List Seg) → Option α) :
    g89K (g89b G_g90) ls k = evFun tab (g89hd G_g90) Go.Proofs.Try.f89 (fillT g89tp ls).1 (fillB g89bp (fillT g89tp ls).2).1 k := by kernel_rfl
theorem g89Calls (m : Nat) : (g89h m).CallsOk Go.Proofs.Try.prog := (cok_cons (g90Ok m) cok_nil)
theorem g89Fn (m : Nat) : FnOk Go.Proofs.Try.prog 89 g89tp g89bp (fun {α} => g89K (g89 (α := α) m)) :=
  fn_ok (tab := tab) (h := g89h m) (fn := Go.Proofs.Try.f89) (F := fun {α} => g89K (g89 (α := α) m)) tabOk (g89Calls m) mixed (by kernel_rfl) (by kernel_rfl) (fun c hc => by
    rw [bodyOf_some hc]
    exact loopsOk_of _ (fun p hp => by rw [show loopsOf (bodyOf Go.Proofs.Try.f89) = [] by kernel_rfl] at hp; cases hp))
    (fun α ls k => g89Main (g90 m) ls k)
theorem g89Ok (m : Nat) : RowOk Go.Proofs.Try.prog 89 (fun {α} => rowK g89tp g89bp (g89K (g89 (α := α) m))) := row_of (g89Fn m)

/-! ### g91: slices.IndexFunc[[]int8,int8] -/
def g91l0b {α : Type} (G_g89 : {α : Type} → Int → (Bool → Option α) → Option α)  (m394 : Nat) (m395 : Nat) (m396 : Nat) (v397 : Int) (m399 : Nat) (a400 : List Int) (k413 : Int → Option α) (k414 : Option α) (r415 : Int → Option α) (v398 : Int) : Option α :=
  cond (decide (v398 < v397))
   (
    if 0 ≤ v398 ∧ v398 < (m395 : Nat) then
      if (m394 + v398.toNat) < m399 then
        G_g89 (List.getD a400 (m394 + v398.toNat) 0)
          (fun b411 =>
            cond b411
             (
              k413 v398)
             (
              r415 (IntKind.wrap .i64 (v398 + (1 : Int)))))
      else
        none
    else
      none)
   (
    k414)
def g91l0 {α : Type} (G_g89 : {α : Type} → Int → (Bool → Option α) → Option α)  (m394 : Nat) (m395 : Nat) (m396 : Nat) (v397 : Int) (m399 : Nat) (a400 : List Int) (k413 : Int → Option α) (k414 : Option α) : Nat → Int → Option α
  | 0 => fun _ => none
  | m + 1 => fun v398 => g91l0b G_g89 m394 m395 m396 v397 m399 a400 k413 k414 (g91l0 G_g89 m394 m395 m396 v397 m399 a400 k413 k414 m) v398
def g91l0M {α : Type} (m : Nat) : Nat → Nat → Nat → Int → Nat → (List Int) → (Int → Option α) → (Option α) → Int → Option α :=
  fun m394 m395 m396 v397 m399 a400 k413 k414 v398 => g91l0 (g89 m) m394 m395 m396 v397 m399 a400 k413 k414 m v398
def g91l0D : LoopD := { n := 19, sl := [0, 1, 7, 8], bl := [0], tp := [(.vl (.sv (.slc 0 0 1))), (.vl (.sv (.clo 89 []))), (.vl (.sv (.int .i64))), (.vl (.sv (.int .i64)))], bp := [(false, [(.seqv (.int .i8))])], xs := [(1, [4], [0]), (2, [], [0])] }
def g91l0K {α : Type} (L : Nat → Nat → Nat → Int → Nat → (List Int) → (Int → Option α) → (Option α) → Int → Option α) (ls : List Lf) (k : Ex → St → Option α) : Option α :=
  L (lf ls 0).nat (lf ls 1).nat (lf ls 2).nat (lf ls 3).int (lf ls 5).nat ((lf ls 6).lst (.int .i8))
    (fun y0 => k .ret (mkSt 19 [4] [(.vl (.sv (.int .i64 y0)))] [0] [(false, [(.seq (.int .i8) (lf ls 5).nat ((lf ls 6).lst (.int .i8)))])]))
    (k .normal (mkSt 19 [] [] [0] [(false, [(.seq (.int .i8) (lf ls 5).nat ((lf ls 6).lst (.int .i8)))])]))
    (lf ls 4).int
def g91b {α : Type} (G_g89 : {α : Type} → Int → (Bool → Option α) → Option α) (L_g91l0 : {α : Type} → Nat → Nat → Nat → Int → Nat → (List Int) → (Int → Option α) → (Option α) → Int → Option α) (m389 : Nat) (m390 : Nat) (m391 : Nat) (m392 : Nat) (u393 : List Int) (k417 : Int → Option α) : Option α :=
  L_g91l0 m389 m390 m391 ((m390 : Nat) : Int) m392 u393
    (fun x416 =>
      k417 x416)
    (
      k417 (-1 : Int))
    (0 : Int)
def g91 {α : Type} (m : Nat) : Nat → Nat → Nat → Nat → (List Int) → (Int → Option α) → Option α :=
  g91b (g89 m) (g91l0M m)
def g91tp : List TP := [(.vl (.sv (.slc 0 0 1))), (.vl (.sv (.clo 89 [])))]
def g91bp : List BP := [(false, [(.seqv (.int .i8))])]
def g91K {α : Type} (G : Nat → Nat → Nat → Nat → (List Int) → (Int → Option α) → Option α) (ls : List Lf) (k : TV → List (List Seg) → List (List Seg) → Option α) : Option α :=
  G (lf ls 0).nat (lf ls 1).nat (lf ls 2).nat (lf ls 3).nat ((lf ls 4).lst (.int .i8))
    (fun y0 => k (.vl (.sv (.int .i64 y0))) [[(.seq (.int .i8) (lf ls 3).nat ((lf ls 4).lst (.int .i8)))]] [])
def g91hd (G_g89 : {α : Type} → Int → (Bool → Option α) → Option α) (L_g91l0 : {α : Type} → Nat → Nat → Nat → Int → Nat → (List Int) → (Int → Option α) → (Option α) → Int → Option α) : Hd where
  call := fun f args Bs k => cond (Nat.beq f 89) (rowK g89tp g89bp (g89K G_g89) args Bs k) (none)
  loop := fun id st k => cond (Nat.beq id 0) (loopH g91l0D (g91l0K L_g91l0) st k) (none)
  ro := fun f => []
def g91h (m : Nat) : Hd := g91hd (g89 m) (g91l0M m)
theorem g91l0Step (G_g89 : {α : Type} → Int → (Bool → Option α) → Option α) (L_g91l0 : {α : Type} → Nat → Nat → Nat → Int → Nat → (List Int) → (Int → Option α) → (Option α) → Int → Option α) {α : Type} (L : Nat → Nat → Nat → Int → Nat → (List Int) → (Int → Option α) → (Option α) → Int → Option α) (ls : List Lf) (k : Ex → St → Option α) :
    g91l0K (fun m394 m395 m396 v397 m399 a400 k413 k414 v398 => g91l0b G_g89 m394 m395 m396 v397 m399 a400 k413 k414 (L m394 m395 m396 v397 m399 a400 k413 k414) v398) ls k = ev tab (g91hd G_g89 L_g91l0) (bodyAt Go.Proofs.Try.f91 0) (atHead g91l0D ls) (loopK g91l0D 0 (loopH g91l0D (g91l0K L)) k) := by kernel_rfl
theorem g91Main (G_g89 : {α : Type} → Int → (Bool → Option α) → Option α) (L_g91l0 : {α : Type} → Nat → Nat → Nat → Int → Nat → (List Int) → (Int → Option α) → (Option α) → Int → Option α) {α : Type} (ls : List Lf) (k : TV → List (List Seg) → List (List Seg) → Option α) :
    g91K (g91b G_g89 L_g91l0) ls k = evFun tab (g91hd G_g89 L_g91l0) Go.Proofs.Try.f91 (fillT g91tp ls).1 (fillB g91bp (fillT g91tp ls).2).1 k := by kernel_rfl
theorem g91Calls (m : Nat) : (g91h m).CallsOk Go.Proofs.Try.prog := (cok_cons (g89Ok m) cok_nil)
theorem g91l0Ok (m : Nat) (α : Type) (st : St) (k : Ex → St → Option α) (r : α) (h : (g91h m).loop 0 st k = some r) :
    ∃ e st', k e st' = some r ∧ CodeS Go.Proofs.Try.prog (.block 0 (.loop (bodyAt Go.Proofs.Try.f91 0))) st e st' :=
  loop_ok (tab := tab) (h := g91h m) (F := fun n ls k => g91l0K (fun m394 m395 m396 v397 m399 a400 k413 k414 v398 => g91l0 (g89 m) m394 m395 m396 v397 m399 a400 k413 k414 n v398) ls k) tabOk (g91Calls m) mixed (loopsOk_of _ (fun p hp => by rw [show loopsOf (bodyAt Go.Proofs.Try.f91 0) = [] by kernel_rfl] at hp; cases hp))
    (fun _ _ => rfl) (fun n ls k => g91l0Step (g89 m) (g91l0M m) (fun m394 m395 m396 v397 m399 a400 k413 k414 => g91l0 (g89 m) m394 m395 m396 v397 m399 a400 k413 k414 n) ls k) (n := m) h
theorem g91Fn (m : Nat) : FnOk Go.Proofs.Try.prog 91 g91tp g91bp (fun {α} => g91K (g91 (α := α) m)) :=
  fn_ok (tab := tab) (h := g91h m) (fn := Go.Proofs.Try.f91) (F := fun {α} => g91K (g91 (α := α) m)) tabOk (g91Calls m) mixed (by kernel_rfl) (by kernel_rfl) (fun c hc => by
    rw [bodyOf_some hc]
    exact loopsOk_of _ (fun p hp => by
    rw [show loopsOf (bodyOf Go.Proofs.Try.f91) = [(0, bodyAt Go.Proofs.Try.f91 0)] by kernel_rfl] at hp
    simp only [List.mem_cons, List.not_mem_nil, or_false] at hp
    rcases hp with rfl
    exact g91l0Ok m))
    (fun α ls k => g91Main (g89 m) (g91l0M m) ls k)
theorem g91Ok (m : Nat) : RowOk Go.Proofs.Try.prog 91 (fun {α} => rowK g91tp g91bp (g91K (g91 (α := α) m))) := row_of (g91Fn m)

/-! ### g88: slices.ContainsFunc[[]int8,int8] -/
def g88b {α : Type} (G_g91 : {α : Type} → Nat → Nat → Nat → Nat → (List Int) → (Int → Option α) → Option α)  (m384 : Nat) (m385 : Nat) (m386 : Nat) (m387 : Nat) (u388 : List Int) (k420 : Bool → Option α) : Option α :=
  G_g91 m384 m385 m386 m387 u388
    (fun x418 =>
      k420 (decide (x418 ≥ (0 : Int))))
def g88 {α : Type} (m : Nat) : Nat → Nat → Nat → Nat → (List Int) → (Bool → Option α) → Option α :=
  g88b (g91 m)
def g88tp : List TP := [(.vl (.sv (.slc 0 0 1))), (.vl (.sv (.clo 89 [])))]
def g88bp : List BP := [(false, [(.seqv (.int .i8))])]
def g88K {α : Type} (G : Nat → Nat → Nat → Nat → (List Int) → (Bool → Option α) → Option α) (ls : List Lf) (k : TV → List (List Seg) → List (List Seg) → Option α) : Option α :=
  G (lf ls 0).nat (lf ls 1).nat (lf ls 2).nat (lf ls 3).nat ((lf ls 4).lst (.int .i8))
    (fun y0 => k (.vl (.sv (.bool y0))) [[(.seq (.int .i8) (lf ls 3).nat ((lf ls 4).lst (.int .i8)))]] [])
def g88hd (G_g91 : {α : Type} → Nat → Nat → Nat → Nat → (List Int) → (Int → Option α) → Option α)  : Hd where
  call := fun f args Bs k => cond (Nat.beq f 91) (rowK g91tp g91bp (g91K G_g91) args Bs k) (none)
  loop := fun id st k => none
  ro := fun f => cond (Nat.beq f 91) [0] ([])
def g88h (m : Nat) : Hd := g88hd (g91 m)
theorem g88Main (G_g91 : {α : Type} → Nat → Nat → Nat → Nat → (List Int) → (Int → Option α) → Option α)  {α : Type} (ls : List Lf) (k : TV → List (List Seg) → List (List Seg) → Option α) :
    g88K (g88b G_g91) ls k = evFun tab (g88hd G_g91) Go.Proofs.Try.f88 (fillT g88tp ls).1 (fillB g88bp (fillT g88tp ls).2).1 k := by kernel_rfl
theorem g88Calls (m : Nat) : (g88h m).CallsOk Go.Proofs.Try.prog := (cok_cons (g91Ok m) cok_nil)
theorem g88Fn (m : Nat) : FnOk Go.Proofs.Try.prog 88 g88tp g88bp (fun {α} => g88K (g88 (α := α) m)) :=
  fn_ok (tab := tab) (h := g88h m) (fn := Go.Proofs.Try.f88) (F := fun {α} => g88K (g88 (α := α) m)) tabOk (g88Calls m) mixed (by kernel_rfl) (by kernel_rfl) (fun c hc => by
    rw [bodyOf_some hc]
    exact loopsOk_of _ (fun p hp => by rw [show loopsOf (bodyOf Go.Proofs.Try.f88) = [] by kernel_rfl] at hp; cases hp))
    (fun α ls k => g88Main (g91 m) ls k)
theorem g88Ok (m : Nat) : RowOk Go.Proofs.Try.prog 88 (fun {α} => rowK g88tp g88bp (g88K (g88 (α := α) m))) := row_of (g88Fn m)

/-! ### g77: impl.digitsOk -/
def g77b {α : Type} (G_g88 : {α : Type} → Nat → Nat → Nat → Nat → (List Int) → (Bool → Option α) → Option α)  (m379 : Nat) (m380 : Nat) (m381 : Nat) (m382 : Nat) (u383 : List Int) (k423 : Bool → Option α) : Option α :=
  G_g88 m379 m380 m381 m382 u383
    (fun b421 =>
      k423 (!b421))
def g77 {α : Type} (m : Nat) : Nat → Nat → Nat → Nat → (List Int) → (Bool → Option α) → Option α :=
  g77b (g88 m)
def g77tp : List TP := [(.vl (.sv (.slc 0 0 1)))]
def g77bp : List BP := [(false, [(.seqv (.int .i8))])]
def g77K {α : Type} (G : Nat → Nat → Nat → Nat → (List Int) → (Bool → Option α) → Option α) (ls : List Lf) (k : TV → List (List Seg) → List (List Seg) → Option α) : Option α :=
  G (lf ls 0).nat (lf ls 1).nat (lf ls 2).nat (lf ls 3).nat ((lf ls 4).lst (.int .i8))
    (fun y0 => k (.vl (.sv (.bool y0))) [[(.seq (.int .i8) (lf ls 3).nat ((lf ls 4).lst (.int .i8)))]] [])
def g77hd (G_g88 : {α : Type} → Nat → Nat → Nat → Nat → (List Int) → (Bool → Option α) → Option α)  : Hd where
  call := fun f args Bs k => cond (Nat.beq f 88) (rowK g88tp g88bp (g88K G_g88) args Bs k) (none)
  loop := fun id st k => none
  ro := fun f => cond (Nat.beq f 88) [0] ([])
def g77h (m : Nat) : Hd := g77hd (g88 m)
theorem g77Main (G_g88 : {α : Type} → Nat → Nat → Nat → Nat → (List Int) → (Bool → Option α) → Option α)  {α : Type} (ls : List Lf) (k : TV → List (List Seg) → List (List Seg) → Option α) :
    g77K (g77b G_g88) ls k = evFun tab (g77hd G_g88) Go.Proofs.Try.f77 (fillT g77tp ls).1 (fillB g77bp (fillT g77tp ls).2).1 k := by kernel_rfl
theorem g77Calls (m : Nat) : (g77h m).CallsOk Go.Proofs.Try.prog := (cok_cons (g88Ok m) cok_nil)
theorem g77Fn (m : Nat) : FnOk Go.Proofs.Try.prog 77 g77tp g77bp (fun {α} => g77K (g77 (α := α) m)) :=
  fn_ok (tab := tab) (h := g77h m) (fn := Go.Proofs.Try.f77) (F := fun {α} => g77K (g77 (α := α) m)) tabOk (g77Calls m) mixed (by kernel_rfl) (by kernel_rfl) (fun c hc => by
    rw [bodyOf_some hc]
    exact loopsOk_of _ (fun p hp => by rw [show loopsOf (bodyOf Go.Proofs.Try.f77) = [] by kernel_rfl] at hp; cases hp))
    (fun α ls k => g77Main (g88 m) ls k)
theorem g77Ok (m : Nat) : RowOk Go.Proofs.Try.prog 77 (fun {α} => rowK g77tp g77bp (g77K (g77 (α := α) m))) := row_of (g77Fn m)

/-! ### g41: impl.ValidStream -/
def g41b {α : Type} (G_g77 : {α : Type} → Nat → Nat → Nat → Nat → (List Int) → (Bool → Option α) → Option α)  (m366 : Nat) (m367 : Nat) (m368 : Nat) (m369 : Nat) (m370 : Nat) (m371 : Nat) (m372 : Nat) (u373 : List Int) (m374 : Nat) (u375 : List Int) (k426 : Bool → Option α) : Option α :=
  cond (decide (((m367 : Nat) : Int) ≤ (16 : Int)))
   (
    cond (decide (((m370 : Nat) : Int) ≥ (1 : Int)))
     (
      cond (decide (((m370 : Nat) : Int) ≤ (14 : Int)))
       (
        G_g77 m366 m367 m368 m372 u373
          (fun b424 =>
            cond b424
             (
              G_g77 m369 m370 m371 m374 u375
                (fun b425 =>
                  k426 b425))
             (
              k426 false)))
       (
        k426 false))
     (
      k426 false))
   (
    k426 false)
def g41 {α : Type} (m : Nat) : Nat → Nat → Nat → Nat → Nat → Nat → Nat → (List Int) → Nat → (List Int) → (Bool → Option α) → Option α :=
  g41b (g77 m)
def g41tp : List TP := [(.vl (.agg [(.one (.slc 0 0 1)), (.one (.slc 1 0 1))]))]
def g41bp : List BP := [(false, [(.seqv (.int .i8))]), (false, [(.seqv (.int .i8))])]
def g41K {α : Type} (G : Nat → Nat → Nat → Nat → Nat → Nat → Nat → (List Int) → Nat → (List Int) → (Bool → Option α) → Option α) (ls : List Lf) (k : TV → List (List Seg) → List (List Seg) → Option α) : Option α :=
  G (lf ls 0).nat (lf ls 1).nat (lf ls 2).nat (lf ls 3).nat (lf ls 4).nat (lf ls 5).nat (lf ls 6).nat ((lf ls 7).lst (.int .i8)) (lf ls 8).nat ((lf ls 9).lst (.int .i8))
    (fun y0 => k (.vl (.sv (.bool y0))) [[(.seq (.int .i8) (lf ls 6).nat ((lf ls 7).lst (.int .i8)))], [(.seq (.int .i8) (lf ls 8).nat ((lf ls 9).lst (.int .i8)))]] [])
def g41hd (G_g77 : {α : Type} → Nat → Nat → Nat → Nat → (List Int) → (Bool → Option α) → Option α)  : Hd where
  call := fun f args Bs k => cond (Nat.beq f 77) (rowK g77tp g77bp (g77K G_g77) args Bs k) (none)
  loop := fun id st k => none
  ro := fun f => cond (Nat.beq f 77) [0] ([])
def g41h (m : Nat) : Hd := g41hd (g77 m)
theorem g41Main (G_g77 : {α : Type} → Nat → Nat → Nat → Nat → (List Int) → (Bool → Option α) → Option α)  {α : Type} (ls : List Lf) (k : TV → List (List Seg) → List (List Seg) → Option α) :
    g41K (g41b G_g77) ls k = evFun tab (g41hd G_g77) Go.Proofs.Try.f41 (fillT g41tp ls).1 (fillB g41bp (fillT g41tp ls).2).1 k := by kernel_rfl
theorem g41Calls (m : Nat) : (g41h m).CallsOk Go.Proofs.Try.prog := (cok_cons (g77Ok m) cok_nil)
theorem g41Fn (m : Nat) : FnOk Go.Proofs.Try.prog 41 g41tp g41bp (fun {α} => g41K (g41 (α := α) m)) :=
  fn_ok (tab := tab) (h := g41h m) (fn := Go.Proofs.Try.f41) (F := fun {α} => g41K (g41 (α := α) m)) tabOk (g41Calls m) mixed (by kernel_rfl) (by kernel_rfl) (fun c hc => by
    rw [bodyOf_some hc]
    exact loopsOk_of _ (fun p hp => by rw [show loopsOf (bodyOf Go.Proofs.Try.f41) = [] by kernel_rfl] at hp; cases hp))
    (fun α ls k => g41Main (g77 m) ls k)
theorem g41Ok (m : Nat) : RowOk Go.Proofs.Try.prog 41 (fun {α} => rowK g41tp g41bp (g41K (g41 (α := α) m))) := row_of (g41Fn m)

/-! ### g11: laws.FnExactValidStream -/
def g11b {α : Type} (G_g35 : {α : Type} → Nat → Nat → Nat → Nat → Nat → Nat → Int → Nat → (List Int) → Nat → (List Int) → (Int → Option α) → Option α) (G_g37 : {α : Type} → Nat → Nat → Nat → Nat → Nat → Nat → Nat → (List Int) → Nat → (List Int) → ((List Int) → (List Int) → Option α) → Option α) (G_g40 : {α : Type} → Nat → Nat → Nat → Nat → Nat → Nat → Nat → (List Int) → Nat → (List Int) → (Bool → Option α) → Option α) (G_g41 : {α : Type} → Nat → Nat → Nat → Nat → Nat → Nat → Nat → (List Int) → Nat → (List Int) → (Bool → Option α) → Option α) (G_g39 : {α : Type} → Nat → Nat → Nat → Nat → Nat → Nat → Nat → Nat → Nat → Nat → Nat → Nat → Nat → (List Int) → Nat → (List Int) → Nat → (List Int) → Nat → (List Int) → (Bool → Option α) → Option α)  (m295 : Nat) (m296 : Nat) (m297 : Nat) (m298 : Nat) (m299 : Nat) (m300 : Nat) (m301 : Nat) (u302 : List Int) (m303 : Nat) (u304 : List Int) (k433 : Bool → Option α) : Option α :=
  G_g35 m295 m296 m297 m298 m299 m300 (1048576 : Int) m301 u302 m303 u304
    (fun x305 =>
      cond (decide (x305 < (0 : Int)))
       (
        k433 true)
       (
        G_g37 m295 m296 m297 m298 m299 m300 m301 u302 m303 u304
          (fun l307 l308 =>
            G_g40 0 m296 m296 0 m299 m299 m296 l307 m299 l308
              (fun b363 =>
                G_g37 m295 m296 m297 m298 m299 m300 m301 u302 m303 u304
                  (fun l364 l365 =>
                    G_g41 0 m296 m296 0 m299 m299 m296 l364 m299 l365
                      (fun b427 =>
                        cond (!(b427 == b363))
                         (
                          k433 false)
                         (
                          G_g37 m295 m296 m297 m298 m299 m300 m301 u302 m303 u304
                            (fun l429 l430 =>
                              G_g39 0 m296 m296 0 m299 m299 0 m296 m296 0 m299 m299 m296 l364 m299 l365 m296 l429 m299 l430
                                (fun b431 =>
                                  cond (!b431)
                                   (
                                    k433 false)
                                   (
                                    k433 true))))))))))
def g11 {α : Type} (m : Nat) : Nat → Nat → Nat → Nat → Nat → Nat → Nat → (List Int) → Nat → (List Int) → (Bool → Option α) → Option α :=
  g11b (g35 m) (g37 m) (g40 m) (g41 m) (g39 m)
def g11tp : List TP := [(.vl (.agg [(.one (.slc 0 0 1)), (.one (.slc 1 0 1))]))]
def g11bp : List BP := [(false, [(.seqv (.int .i8))]), (false, [(.seqv (.int .i8))])]
def g11K {α : Type} (G : Nat → Nat → Nat → Nat → Nat → Nat → Nat → (List Int) → Nat → (List Int) → (Bool → Option α) → Option α) (ls : List Lf) (k : TV → List (List Seg) → List (List Seg) → Option α) : Option α :=
  G (lf ls 0).nat (lf ls 1).nat (lf ls 2).nat (lf ls 3).nat (lf ls 4).nat (lf ls 5).nat (lf ls 6).nat ((lf ls 7).lst (.int .i8)) (lf ls 8).nat ((lf ls 9).lst (.int .i8))
    (fun y0 => k (.vl (.sv (.bool y0))) [[(.seq (.int .i8) (lf ls 6).nat ((lf ls 7).lst (.int .i8)))], [(.seq (.int .i8) (lf ls 8).nat ((lf ls 9).lst (.int .i8)))]] [])
def g11hd (G_g35 : {α : Type} → Nat → Nat → Nat → Nat → Nat → Nat → Int → Nat → (List Int) → Nat → (List Int) → (Int → Option α) → Option α) (G_g37 : {α : Type} → Nat → Nat → Nat → Nat → Nat → Nat → Nat → (List Int) → Nat → (List Int) → ((List Int) → (List Int) → Option α) → Option α) (G_g40 : {α : Type} → Nat → Nat → Nat → Nat → Nat → Nat → Nat → (List Int) → Nat → (List Int) → (Bool → Option α) → Option α) (G_g41 : {α : Type} → Nat → Nat → Nat → Nat → Nat → Nat → Nat → (List Int) → Nat → (List Int) → (Bool → Option α) → Option α) (G_g39 : {α : Type} → Nat → Nat → Nat → Nat → Nat → Nat → Nat → Nat → Nat → Nat → Nat → Nat → Nat → (List Int) → Nat → (List Int) → Nat → (List Int) → Nat → (List Int) → (Bool → Option α) → Option α)  : Hd where
  call := fun f args Bs k => cond (Nat.beq f 35) (rowK g35tp g35bp (g35K G_g35) args Bs k) (cond (Nat.beq f 37) (rowK g37tp g37bp (g37K G_g37) args Bs k) (cond (Nat.beq f 40) (rowK g40tp g40bp (g40K G_g40) args Bs k) (cond (Nat.beq f 41) (rowK g41tp g41bp (g41K G_g41) args Bs k) (cond (Nat.beq f 39) (rowK g39tp g39bp (g39K G_g39) args Bs k) (none)))))
  loop := fun id st k => none
  ro := fun f => cond (Nat.beq f 35) [0, 1] (cond (Nat.beq f 37) [0, 1] (cond (Nat.beq f 39) [0, 1, 2, 3] (cond (Nat.beq f 40) [0, 1] (cond (Nat.beq f 41) [0, 1] ([])))))
def g11h (m : Nat) : Hd := g11hd (g35 m) (g37 m) (g40 m) (g41 m) (g39 m)
theorem g11Main (G_g35 : {α : Type} → Nat → Nat → Nat → Nat → Nat → Nat → Int → Nat → (List Int) → Nat → (List Int) → (Int → Option α) → Option α) (G_g37 : {α : Type} → Nat → Nat → Nat → Nat → Nat → Nat → Nat → (List Int) → Nat → (List Int) → ((List Int) → (List Int) → Option α) → Option α) (G_g40 : {α : Type} → Nat → Nat → Nat → Nat → Nat → Nat → Nat → (List Int) → Nat → (List Int) → (Bool → Option α) → Option α) (G_g41 : {α : Type} → Nat → Nat → Nat → Nat → Nat → Nat → Nat → (List Int) → Nat → (List Int) → (Bool → Option α) → Option α) (G_g39 : {α : Type} → Nat → Nat → Nat → Nat → Nat → Nat → Nat → Nat → Nat → Nat → Nat → Nat → Nat → (List Int) → Nat → (List Int) → Nat → (List Int) → Nat → (List Int) → (Bool → Option α) → Option α)  {α : Type} (ls : List Lf) (k : TV → List (List Seg) → List (List Seg) → Option α) :
    g11K (g11b G_g35 G_g37 G_g40 G_g41 G_g39) ls k = evFun tab (g11hd G_g35 G_g37 G_g40 G_g41 G_g39) Go.Proofs.Try.f11 (fillT g11tp ls).1 (fillB g11bp (fillT g11tp ls).2).1 k := by kernel_rfl
theorem g11Calls (m : Nat) : (g11h m).CallsOk Go.Proofs.Try.prog := (cok_cons (g35Ok m) (cok_cons (g37Ok m) (cok_cons (g40Ok m) (cok_cons (g41Ok m) (cok_cons (g39Ok m) cok_nil)))))
theorem g11Fn (m : Nat) : FnOk Go.Proofs.Try.prog 11 g11tp g11bp (fun {α} => g11K (g11 (α := α) m)) :=
  fn_ok (tab := tab) (h := g11h m) (fn := Go.Proofs.Try.f11) (F := fun {α} => g11K (g11 (α := α) m)) tabOk (g11Calls m) mixed (by kernel_rfl) (by kernel_rfl) (fun c hc => by
    rw [bodyOf_some hc]
    exact loopsOk_of _ (fun p hp => by rw [show loopsOf (bodyOf Go.Proofs.Try.f11) = [] by kernel_rfl] at hp; cases hp))
    (fun α ls k => g11Main (g35 m) (g37 m) (g40 m) (g41 m) (g39 m) ls k)
theorem g11Ok (m : Nat) : RowOk Go.Proofs.Try.prog 11 (fun {α} => rowK g11tp g11bp (g11K (g11 (α := α) m))) := row_of (g11Fn m)

/-! ### g80: spec.l03At -/
def g80b {α : Type}   (p464 : Int) (m465 : Nat) (m466 : Nat) (m467 : Nat) (m468 : Nat) (m469 : Nat) (m470 : Nat) (m471 : Nat) (u472 : List Int) (m473 : Nat) (u474 : List Int) (k480 : Int → Option α) : Option α :=
  cond (decide (p464 < ((m466 : Nat) : Int)))
   (
    if 0 ≤ p464 ∧ p464 < (m466 : Nat) then
      if (m465 + p464.toNat) < m471 then
        k480 (List.getD u472 (m465 + p464.toNat) 0)
      else
        none
    else
      none)
   (
    if ((m469 : Nat) : Int) = 0 then
      none
    else
      let x478 : Int := Int.tmod (IntKind.wrap .i64 (p464 - ((m466 : Nat) : Int))) ((m469 : Nat) : Int)
      if 0 ≤ x478 ∧ x478 < (m469 : Nat) then
        if (m468 + x478.toNat) < m473 then
          k480 (List.getD u474 (m468 + x478.toNat) 0)
        else
          none
      else
        none)
def g80 {α : Type} (m : Nat) : Int → Nat → Nat → Nat → Nat → Nat → Nat → Nat → (List Int) → Nat → (List Int) → (Int → Option α) → Option α :=
  g80b
def g80tp : List TP := [(.vl (.sv (.ptr 0 0))), (.vl (.sv (.int .i64)))]
def g80bp : List BP := [(false, [(.one (.slc 1 0 1)), (.one (.slc 2 0 1))]), (false, [(.seqv (.int .i8))]), (false, [(.seqv (.int .i8))])]
def g80K {α : Type} (G : Int → Nat → Nat → Nat → Nat → Nat → Nat → Nat → (List Int) → Nat → (List Int) → (Int → Option α) → Option α) (ls : List Lf) (k : TV → List (List Seg) → List (List Seg) → Option α) : Option α :=
  G (lf ls 0).int (lf ls 1).nat (lf ls 2).nat (lf ls 3).nat (lf ls 4).nat (lf ls 5).nat (lf ls 6).nat (lf ls 7).nat ((lf ls 8).lst (.int .i8)) (lf ls 9).nat ((lf ls 10).lst (.int .i8))
    (fun y0 => k (.vl (.sv (.int .i8 y0))) [[(.one (.slc 1 0 1 (lf ls 1).nat (lf ls 2).nat (lf ls 3).nat)), (.one (.slc 2 0 1 (lf ls 4).nat (lf ls 5).nat (lf ls 6).nat))], [(.seq (.int .i8) (lf ls 7).nat ((lf ls 8).lst (.int .i8)))], [(.seq (.int .i8) (lf ls 9).nat ((lf ls 10).lst (.int .i8)))]] [])
def g80hd   : Hd where
  call := fun f args Bs k => none
  loop := fun id st k => none
  ro := fun f => []
def g80h (m : Nat) : Hd := g80hd
theorem g80Main   {α : Type} (ls : List Lf) (k : TV → List (List Seg) → List (List Seg) → Option α) :
    g80K (g80b) ls k = evFun tab (g80hd) Go.Proofs.Try.f80 (fillT g80tp ls).1 (fillB g80bp (fillT g80tp ls).2).1 k := by kernel_rfl
theorem g80Calls (m : Nat) : (g80h m).CallsOk Go.Proofs.Try.prog := cok_nil
theorem g80Fn (m : Nat) : FnOk Go.Proofs.Try.prog 80 g80tp g80bp (fun {α} => g80K (g80 (α := α) m)) :=
  fn_ok (tab := tab) (h := g80h m) (fn := Go.Proofs.Try.f80) (F := fun {α} => g80K (g80 (α := α) m)) tabOk (g80Calls m) mixed (by kernel_rfl) (by kernel_rfl) (fun c hc => by
    rw [bodyOf_some hc]
    exact loopsOk_of _ (fun p hp => by rw [show loopsOf (bodyOf Go.Proofs.Try.f80) = [] by kernel_rfl] at hp; cases hp))
    (fun α ls k => g80Main ls k)
theorem g80Ok (m : Nat) : RowOk Go.Proofs.Try.prog 80 (fun {α} => rowK g80tp g80bp (g80K (g80 (α := α) m))) := row_of (g80Fn m)

/-! ### g44: spec.DigitAt -/
def g44b {α : Type} (G_g76 : {α : Type} → Nat → Nat → Nat → Nat → Nat → Nat → Nat → (List Int) → Nat → (List Int) → (Bool → Option α) → Option α) (G_g63 : {α : Type} → Int → Int → Int → (Bool → Option α) → Option α) (G_g80 : {α : Type} → Int → Nat → Nat → Nat → Nat → Nat → Nat → Nat → (List Int) → Nat → (List Int) → (Int → Option α) → Option α)  (m449 : Nat) (m450 : Nat) (m451 : Nat) (m452 : Nat) (m453 : Nat) (m454 : Nat) (p455 : Int) (m456 : Nat) (u457 : List Int) (m458 : Nat) (u459 : List Int) (k482 : Int → Int → Option α) : Option α :=
  G_g76 m449 m450 m451 m452 m453 m454 m456 u457 m458 u459
    (fun b460 =>
      cond (!b460)
       (
        k482 (0 : Int) (1 : Int))
       (
        G_g63 p455 (0 : Int) (1000000000 : Int)
          (fun b462 =>
            cond (!b462)
             (
              k482 (0 : Int) (2 : Int))
             (
              G_g80 p455 m449 m450 m451 m452 m453 m454 m456 u457 m458 u459
                (fun x481 =>
                  k482 x481 (0 : Int))))))
def g44 {α : Type} (m : Nat) : Nat → Nat → Nat → Nat → Nat → Nat → Int → Nat → (List Int) → Nat → (List Int) → (Int → Int → Option α) → Option α :=
  g44b (g76 m) (g63 m) (g80 m)
def g44tp : List TP := [(.vl (.agg [(.one (.slc 0 0 1)), (.one (.slc 1 0 1))])), (.vl (.sv (.int .i64)))]
def g44bp : List BP := [(false, [(.seqv (.int .i8))]), (false, [(.seqv (.int .i8))])]
def g44K {α : Type} (G : Nat → Nat → Nat → Nat → Nat → Nat → Int → Nat → (List Int) → Nat → (List Int) → (Int → Int → Option α) → Option α) (ls : List Lf) (k : TV → List (List Seg) → List (List Seg) → Option α) : Option α :=
  G (lf ls 0).nat (lf ls 1).nat (lf ls 2).nat (lf ls 3).nat (lf ls 4).nat (lf ls 5).nat (lf ls 6).int (lf ls 7).nat ((lf ls 8).lst (.int .i8)) (lf ls 9).nat ((lf ls 10).lst (.int .i8))
    (fun y0 y1 => k (.tup [(.sv (.int .i8 y0)), (.sv (.int .i64 y1))]) [[(.seq (.int .i8) (lf ls 7).nat ((lf ls 8).lst (.int .i8)))], [(.seq (.int .i8) (lf ls 9).nat ((lf ls 10).lst (.int .i8)))]] [])
def g44hd (G_g76 : {α : Type} → Nat → Nat → Nat → Nat → Nat → Nat → Nat → (List Int) → Nat → (List Int) → (Bool → Option α) → Option α) (G_g63 : {α : Type} → Int → Int → Int → (Bool → Option α) → Option α) (G_g80 : {α : Type} → Int → Nat → Nat → Nat → Nat → Nat → Nat → Nat → (List Int) → Nat → (List Int) → (Int → Option α) → Option α)  : Hd where
  call := fun f args Bs k => cond (Nat.beq f 76) (rowK g76tp g76bp (g76K G_g76) args Bs k) (cond (Nat.beq f 63) (rowK g63tp g63bp (g63K G_g63) args Bs k) (cond (Nat.beq f 80) (rowK g80tp g80bp (g80K G_g80) args Bs k) (none)))
  loop := fun id st k => none
  ro := fun f => cond (Nat.beq f 76) [0, 1, 2] (cond (Nat.beq f 80) [0, 1, 2] ([]))
def g44h (m : Nat) : Hd := g44hd (g76 m) (g63 m) (g80 m)
theorem g44Main (G_g76 : {α : Type} → Nat → Nat → Nat → Nat → Nat → Nat → Nat → (List Int) → Nat → (List Int) → (Bool → Option α) → Option α) (G_g63 : {α : Type} → Int → Int → Int → (Bool → Option α) → Option α) (G_g80 : {α : Type} → Int → Nat → Nat → Nat → Nat → Nat → Nat → Nat → (List Int) → Nat → (List Int) → (Int → Option α) → Option α)  {α : Type} (ls : List Lf) (k : TV → List (List Seg) → List (List Seg) → Option α) :
    g44K (g44b G_g76 G_g63 G_g80) ls k = evFun tab (g44hd G_g76 G_g63 G_g80) Go.Proofs.Try.f44 (fillT g44tp ls).1 (fillB g44bp (fillT g44tp ls).2).1 k := by kernel_rfl
theorem g44Calls (m : Nat) : (g44h m).CallsOk Go.Proofs.Try.prog := (cok_cons (g76Ok m) (cok_cons (g63Ok m) (cok_cons (g80Ok m) cok_nil)))
theorem g44Fn (m : Nat) : FnOk Go.Proofs.Try.prog 44 g44tp g44bp (fun {α} => g44K (g44 (α := α) m)) :=
  fn_ok (tab := tab) (h := g44h m) (fn := Go.Proofs.Try.f44) (F := fun {α} => g44K (g44 (α := α) m)) tabOk (g44Calls m) mixed (by kernel_rfl) (by kernel_rfl) (fun c hc => by
    rw [bodyOf_some hc]
    exact loopsOk_of _ (fun p hp => by rw [show loopsOf (bodyOf Go.Proofs.Try.f44) = [] by kernel_rfl] at hp; cases hp))
    (fun α ls k => g44Main (g76 m) (g63 m) (g80 m) ls k)
theorem g44Ok (m : Nat) : RowOk Go.Proofs.Try.prog 44 (fun {α} => rowK g44tp g44bp (g44K (g44 (α := α) m))) := row_of (g44Fn m)

/-! ### g58: impl.within -/
def g58b {α : Type}   (p500 : Int) (p501 : Int) (p502 : Int) (k505 : Bool → Option α) : Option α :=
  cond (decide (p500 ≥ p501))
   (
    k505 (decide (p500 ≤ p502)))
   (
    k505 false)
def g58 {α : Type} (m : Nat) : Int → Int → Int → (Bool → Option α) → Option α :=
  g58b
def g58tp : List TP := [(.vl (.sv (.int .i64))), (.vl (.sv (.int .i64))), (.vl (.sv (.int .i64)))]
def g58bp : List BP := []
def g58K {α : Type} (G : Int → Int → Int → (Bool → Option α) → Option α) (ls : List Lf) (k : TV → List (List Seg) → List (List Seg) → Option α) : Option α :=
  G (lf ls 0).int (lf ls 1).int (lf ls 2).int
    (fun y0 => k (.vl (.sv (.bool y0))) [] [])
def g58hd   : Hd where
  call := fun f args Bs k => none
  loop := fun id st k => none
  ro := fun f => []
def g58h (m : Nat) : Hd := g58hd
theorem g58Main   {α : Type} (ls : List Lf) (k : TV → List (List Seg) → List (List Seg) → Option α) :
    g58K (g58b) ls k = evFun tab (g58hd) Go.Proofs.Try.f58 (fillT g58tp ls).1 (fillB g58bp (fillT g58tp ls).2).1 k := by kernel_rfl
theorem g58Calls (m : Nat) : (g58h m).CallsOk Go.Proofs.Try.prog := cok_nil
theorem g58Fn (m : Nat) : FnOk Go.Proofs.Try.prog 58 g58tp g58bp (fun {α} => g58K (g58 (α := α) m)) :=
  fn_ok (tab := tab) (h := g58h m) (fn := Go.Proofs.Try.f58) (F := fun {α} => g58K (g58 (α := α) m)) tabOk (g58Calls m) mixed (by kernel_rfl) (by kernel_rfl) (fun c hc => by
    rw [bodyOf_some hc]
    exact loopsOk_of _ (fun p hp => by rw [show loopsOf (bodyOf Go.Proofs.Try.f58) = [] by kernel_rfl] at hp; cases hp))
    (fun α ls k => g58Main ls k)
theorem g58Ok (m : Nat) : RowOk Go.Proofs.Try.prog 58 (fun {α} => rowK g58tp g58bp (g58K (g58 (α := α) m))) := row_of (g58Fn m)

/-! ### g81: (impl.Stream).at -/
def g81b {α : Type}   (m508 : Nat) (m509 : Nat) (m510 : Nat) (m511 : Nat) (m512 : Nat) (m513 : Nat) (p514 : Int) (m515 : Nat) (u516 : List Int) (m517 : Nat) (u518 : List Int) (k524 : Int → Option α) : Option α :=
  cond (decide (p514 < ((m509 : Nat) : Int)))
   (
    if 0 ≤ p514 ∧ p514 < (m509 : Nat) then
      if (m508 + p514.toNat) < m515 then
        k524 (List.getD u516 (m508 + p514.toNat) 0)
      else
        none
    else
      none)
   (
    if ((m512 : Nat) : Int) = 0 then
      none
    else
      let x522 : Int := Int.tmod (IntKind.wrap .i64 (p514 - ((m509 : Nat) : Int))) ((m512 : Nat) : Int)
      if 0 ≤ x522 ∧ x522 < (m512 : Nat) then
        if (m511 + x522.toNat) < m517 then
          k524 (List.getD u518 (m511 + x522.toNat) 0)
        else
          none
      else
        none)
def g81 {α : Type} (m : Nat) : Nat → Nat → Nat → Nat → Nat → Nat → Int → Nat → (List Int) → Nat → (List Int) → (Int → Option α) → Option α :=
  g81b
def g81tp : List TP := [(.vl (.agg [(.one (.slc 0 0 1)), (.one (.slc 1 0 1))])), (.vl (.sv (.int .i64)))]
def g81bp : List BP := [(false, [(.seqv (.int .i8))]), (false, [(.seqv (.int .i8))])]
def g81K {α : Type} (G : Nat → Nat → Nat → Nat → Nat → Nat → Int → Nat → (List Int) → Nat → (List Int) → (Int → Option α) → Option α) (ls : List Lf) (k : TV → List (List Seg) → List (List Seg) → Option α) : Option α :=
  G (lf ls 0).nat (lf ls 1).nat (lf ls 2).nat (lf ls 3).nat (lf ls 4).nat (lf ls 5).nat (lf ls 6).int (lf ls 7).nat ((lf ls 8).lst (.int .i8)) (lf ls 9).nat ((lf ls 10).lst (.int .i8))
    (fun y0 => k (.vl (.sv (.int .i8 y0))) [[(.seq (.int .i8) (lf ls 7).nat ((lf ls 8).lst (.int .i8)))], [(.seq (.int .i8) (lf ls 9).nat ((lf ls 10).lst (.int .i8)))]] [])
def g81hd   : Hd where
  call := fun f args Bs k => none
  loop := fun id st k => none
  ro := fun f => []
def g81h (m : Nat) : Hd := g81hd
theorem g81Main   {α : Type} (ls : List Lf) (k : TV → List (List Seg) → List (List Seg) → Option α) :
    g81K (g81b) ls k = evFun tab (g81hd) Go.Proofs.Try.f81 (fillT g81tp ls).1 (fillB g81bp (fillT g81tp ls).2).1 k := by kernel_rfl
theorem g81Calls (m : Nat) : (g81h m).CallsOk Go.Proofs.Try.prog := cok_nil
theorem g81Fn (m : Nat) : FnOk Go.Proofs.Try.prog 81 g81tp g81bp (fun {α} => g81K (g81 (α := α) m)) :=
  fn_ok (tab := tab) (h := g81h m) (fn := Go.Proofs.Try.f81) (F := fun {α} => g81K (g81 (α := α) m)) tabOk (g81Calls m) mixed (by kernel_rfl) (by kernel_rfl) (fun c hc => by
    rw [bodyOf_some hc]
    exact loopsOk_of _ (fun p hp => by rw [show loopsOf (bodyOf Go.Proofs.Try.f81) = [] by kernel_rfl] at hp; cases hp))
    (fun α ls k => g81Main ls k)
theorem g81Ok (m : Nat) : RowOk Go.Proofs.Try.prog 81 (fun {α} => rowK g81tp g81bp (g81K (g81 (α := α) m))) := row_of (g81Fn m)

/-! ### g45: impl.DigitAt -/
def g45b {α : Type} (G_g41 : {α : Type} → Nat → Nat → Nat → Nat → Nat → Nat → Nat → (List Int) → Nat → (List Int) → (Bool → Option α) → Option α) (G_g58 : {α : Type} → Int → Int → Int → (Bool → Option α) → Option α) (G_g81 : {α : Type} → Nat → Nat → Nat → Nat → Nat → Nat → Int → Nat → (List Int) → Nat → (List Int) → (Int → Option α) → Option α)  (m487 : Nat) (m488 : Nat) (m489 : Nat) (m490 : Nat) (m491 : Nat) (m492 : Nat) (p493 : Int) (m494 : Nat) (u495 : List Int) (m496 : Nat) (u497 : List Int) (k526 : Int → Int → Option α) : Option α :=
  G_g41 m487 m488 m489 m490 m491 m492 m494 u495 m496 u497
    (fun b498 =>
      cond (!b498)
       (
        k526 (0 : Int) (1 : Int))
       (
        G_g58 p493 (0 : Int) (1000000000 : Int)
          (fun b506 =>
            cond (!b506)
             (
              k526 (0 : Int) (2 : Int))
             (
              G_g81 m487 m488 m489 m490 m491 m492 p493 m494 u495 m496 u497
                (fun x525 =>
                  k526 x525 (0 : Int))))))
def g45 {α : Type} (m : Nat) : Nat → Nat → Nat → Nat → Nat → Nat → Int → Nat → (List Int) → Nat → (List Int) → (Int → Int → Option α) → Option α :=
  g45b (g41 m) (g58 m) (g81 m)
def g45tp : List TP := [(.vl (.agg [(.one (.slc 0 0 1)), (.one (.slc 1 0 1))])), (.vl (.sv (.int .i64)))]
def g45bp : List BP := [(false, [(.seqv (.int .i8))]), (false, [(.seqv (.int .i8))])]
def g45K {α : Type} (G : Nat → Nat → Nat → Nat → Nat → Nat → Int → Nat → (List Int) → Nat → (List Int) → (Int → Int → Option α) → Option α) (ls : List Lf) (k : TV → List (List Seg) → List (List Seg) → Option α) : Option α :=
  G (lf ls 0).nat (lf ls 1).nat (lf ls 2).nat (lf ls 3).nat (lf ls 4).nat (lf ls 5).nat (lf ls 6).int (lf ls 7).nat ((lf ls 8).lst (.int .i8)) (lf ls 9).nat ((lf ls 10).lst (.int .i8))
    (fun y0 y1 => k (.tup [(.sv (.int .i8 y0)), (.sv (.int .i64 y1))]) [[(.seq (.int .i8) (lf ls 7).nat ((lf ls 8).lst (.int .i8)))], [(.seq (.int .i8) (lf ls 9).nat ((lf ls 10).lst (.int .i8)))]] [])
def g45hd (G_g41 : {α : Type} → Nat → Nat → Nat → Nat → Nat → Nat → Nat → (List Int) → Nat → (List Int) → (Bool → Option α) → Option α) (G_g58 : {α : Type} → Int → Int → Int → (Bool → Option α) → Option α) (G_g81 : {α : Type} → Nat → Nat → Nat → Nat → Nat → Nat → Int → Nat → (List Int) → Nat → (List Int) → (Int → Option α) → Option α)  : Hd where
  call := fun f args Bs k => cond (Nat.beq f 41) (rowK g41tp g41bp (g41K G_g41) args Bs k) (cond (Nat.beq f 58) (rowK g58tp g58bp (g58K G_g58) args Bs k) (cond (Nat.beq f 81) (rowK g81tp g81bp (g81K G_g81) args Bs k) (none)))
  loop := fun id st k => none
  ro := fun f => cond (Nat.beq f 41) [0, 1] (cond (Nat.beq f 81) [0, 1] ([]))
def g45h (m : Nat) : Hd := g45hd (g41 m) (g58 m) (g81 m)
theorem g45Main (G_g41 : {α : Type} → Nat → Nat → Nat → Nat → Nat → Nat → Nat → (List Int) → Nat → (List Int) → (Bool → Option α) → Option α) (G_g58 : {α : Type} → Int → Int → Int → (Bool → Option α) → Option α) (G_g81 : {α : Type} → Nat → Nat → Nat → Nat → Nat → Nat → Int → Nat → (List Int) → Nat → (List Int) → (Int → Option α) → Option α)  {α : Type} (ls : List Lf) (k : TV → List (List Seg) → List (List Seg) → Option α) :
    g45K (g45b G_g41 G_g58 G_g81) ls k = evFun tab (g45hd G_g41 G_g58 G_g81) Go.Proofs.Try.f45 (fillT g45tp ls).1 (fillB g45bp (fillT g45tp ls).2).1 k := by kernel_rfl
theorem g45Calls (m : Nat) : (g45h m).CallsOk Go.Proofs.Try.prog := (cok_cons (g41Ok m) (cok_cons (g58Ok m) (cok_cons (g81Ok m) cok_nil)))
theorem g45Fn (m : Nat) : FnOk Go.Proofs.Try.prog 45 g45tp g45bp (fun {α} => g45K (g45 (α := α) m)) :=
  fn_ok (tab := tab) (h := g45h m) (fn := Go.Proofs.Try.f45) (F := fun {α} => g45K (g45 (α := α) m)) tabOk (g45Calls m) mixed (by kernel_rfl) (by kernel_rfl) (fun c hc => by
    rw [bodyOf_some hc]
    exact loopsOk_of _ (fun p hp => by rw [show loopsOf (bodyOf Go.Proofs.Try.f45) = [] by kernel_rfl] at hp; cases hp))
    (fun α ls k => g45Main (g41 m) (g58 m) (g81 m) ls k)
theorem g45Ok (m : Nat) : RowOk Go.Proofs.Try.prog 45 (fun {α} => rowK g45tp g45bp (g45K (g45 (α := α) m))) := row_of (g45Fn m)

/-! ### g13: laws.FnExactDigitAt -/
def g13b {α : Type} (G_g35 : {α : Type} → Nat → Nat → Nat → Nat → Nat → Nat → Int → Nat → (List Int) → Nat → (List Int) → (Int → Option α) → Option α) (G_g37 : {α : Type} → Nat → Nat → Nat → Nat → Nat → Nat → Nat → (List Int) → Nat → (List Int) → ((List Int) → (List Int) → Option α) → Option α) (G_g44 : {α : Type} → Nat → Nat → Nat → Nat → Nat → Nat → Int → Nat → (List Int) → Nat → (List Int) → (Int → Int → Option α) → Option α) (G_g45 : {α : Type} → Nat → Nat → Nat → Nat → Nat → Nat → Int → Nat → (List Int) → Nat → (List Int) → (Int → Int → Option α) → Option α) (G_g39 : {α : Type} → Nat → Nat → Nat → Nat → Nat → Nat → Nat → Nat → Nat → Nat → Nat → Nat → Nat → (List Int) → Nat → (List Int) → Nat → (List Int) → Nat → (List Int) → (Bool → Option α) → Option α)  (m434 : Nat) (m435 : Nat) (m436 : Nat) (m437 : Nat) (m438 : Nat) (m439 : Nat) (p440 : Int) (m441 : Nat) (u442 : List Int) (m443 : Nat) (u444 : List Int) (k535 : Bool → Option α) : Option α :=
  G_g35 m434 m435 m436 m437 m438 m439 (1048576 : Int) m441 u442 m443 u444
    (fun x445 =>
      cond (decide (x445 < (0 : Int)))
       (
        k535 true)
       (
        G_g37 m434 m435 m436 m437 m438 m439 m441 u442 m443 u444
          (fun l447 l448 =>
            G_g44 0 m435 m435 0 m438 m438 p440 m435 l447 m438 l448
              (fun x483 x484 =>
                G_g37 m434 m435 m436 m437 m438 m439 m441 u442 m443 u444
                  (fun l485 l486 =>
                    G_g45 0 m435 m435 0 m438 m438 p440 m435 l485 m438 l486
                      (fun x527 x528 =>
                        cond (x527 != x483)
                         (
                          k535 false)
                         (
                          cond (x528 != x484)
                           (
                            k535 false)
                           (
                            G_g37 m434 m435 m436 m437 m438 m439 m441 u442 m443 u444
                              (fun l531 l532 =>
                                G_g39 0 m435 m435 0 m438 m438 0 m435 m435 0 m438 m438 m435 l485 m438 l486 m435 l531 m438 l532
                                  (fun b533 =>
                                    cond (!b533)
                                     (
                                      k535 false)
                                     (
                                      k535 true)))))))))))
def g13 {α : Type} (m : Nat) : Nat → Nat → Nat → Nat → Nat → Nat → Int → Nat → (List Int) → Nat → (List Int) → (Bool → Option α) → Option α :=
  g13b (g35 m) (g37 m) (g44 m) (g45 m) (g39 m)
def g13tp : List TP := [(.vl (.agg [(.one (.slc 0 0 1)), (.one (.slc 1 0 1))])), (.vl (.sv (.int .i64)))]
def g13bp : List BP := [(false, [(.seqv (.int .i8))]), (false, [(.seqv (.int .i8))])]
def g13K {α : Type} (G : Nat → Nat → Nat → Nat → Nat → Nat → Int → Nat → (List Int) → Nat → (List Int) → (Bool → Option α) → Option α) (ls : List Lf) (k : TV → List (List Seg) → List (List Seg) → Option α) : Option α :=
  G (lf ls 0).nat (lf ls 1).nat (lf ls 2).nat (lf ls 3).nat (lf ls 4).nat (lf ls 5).nat (lf ls 6).int (lf ls 7).nat ((lf ls 8).lst (.int .i8)) (lf ls 9).nat ((lf ls 10).lst (.int .i8))
    (fun y0 => k (.vl (.sv (.bool y0))) [[(.seq (.int .i8) (lf ls 7).nat ((lf ls 8).lst (.int .i8)))], [(.seq (.int .i8) (lf ls 9).nat ((lf ls 10).lst (.int .i8)))]] [])
def g13hd (G_g35 : {α : Type} → Nat → Nat → Nat → Nat → Nat → Nat → Int → Nat → (List Int) → Nat → (List Int) → (Int → Option α) → Option α) (G_g37 : {α : Type} → Nat → Nat → Nat → Nat → Nat → Nat → Nat → (List Int) → Nat → (List Int) → ((List Int) → (List Int) → Option α) → Option α) (G_g44 : {α : Type} → Nat → Nat → Nat → Nat → Nat → Nat → Int → Nat → (List Int) → Nat → (List Int) → (Int → Int → Option α) → Option α) (G_g45 : {α : Type} → Nat → Nat → Nat → Nat → Nat → Nat → Int → Nat → (List Int) → Nat → (List Int) → (Int → Int → Option α) → Option α) (G_g39 : {α : Type} → Nat → Nat → Nat → Nat → Nat → Nat → Nat → Nat → Nat → Nat → Nat → Nat → Nat → (List Int) → Nat → (List Int) → Nat → (List Int) → Nat → (List Int) → (Bool → Option α) → Option α)  : Hd where
  call := fun f args Bs k => cond (Nat.beq f 35) (rowK g35tp g35bp (g35K G_g35) args Bs k) (cond (Nat.beq f 37) (rowK g37tp g37bp (g37K G_g37) args Bs k) (cond (Nat.beq f 44) (rowK g44tp g44bp (g44K G_g44) args Bs k) (cond (Nat.beq f 45) (rowK g45tp g45bp (g45K G_g45) args Bs k) (cond (Nat.beq f 39) (rowK g39tp g39bp (g39K G_g39) args Bs k) (none)))))
  loop := fun id st k => none
  ro := fun f => cond (Nat.beq f 35) [0, 1] (cond (Nat.beq f 37) [0, 1] (cond (Nat.beq f 39) [0, 1, 2, 3] (cond (Nat.beq f 44) [0, 1] (cond (Nat.beq f 45) [0, 1] ([])))))
def g13h (m : Nat) : Hd := g13hd (g35 m) (g37 m) (g44 m) (g45 m) (g39 m)
theorem g13Main (G_g35 : {α : Type} → Nat → Nat → Nat → Nat → Nat → Nat → Int → Nat → (List Int) → Nat → (List Int) → (Int → Option α) → Option α) (G_g37 : {α : Type} → Nat → Nat → Nat → Nat → Nat → Nat → Nat → (List Int) → Nat → (List Int) → ((List Int) → (List Int) → Option α) → Option α) (G_g44 : {α : Type} → Nat → Nat → Nat → Nat → Nat → Nat → Int → Nat → (List Int) → Nat → (List Int) → (Int → Int → Option α) → Option α) (G_g45 : {α : Type} → Nat → Nat → Nat → Nat → Nat → Nat → Int → Nat → (List Int) → Nat → (List Int) → (Int → Int → Option α) → Option α) (G_g39 : {α : Type} → Nat → Nat → Nat → Nat → Nat → Nat → Nat → Nat → Nat → Nat → Nat → Nat → Nat → (List Int) → Nat → (List Int) → Nat → (List Int) → Nat → (List Int) → (Bool → Option α) → Option α)  {α : Type} (ls : List Lf) (k : TV → List (List Seg) → List (List Seg) → Option α) :
    g13K (g13b G_g35 G_g37 G_g44 G_g45 G_g39) ls k = evFun tab (g13hd G_g35 G_g37 G_g44 G_g45 G_g39) Go.Proofs.Try.f13 (fillT g13tp ls).1 (fillB g13bp (fillT g13tp ls).2).1 k := by kernel_rfl
theorem g13Calls (m : Nat) : (g13h m).CallsOk Go.Proofs.Try.prog := (cok_cons (g35Ok m) (cok_cons (g37Ok m) (cok_cons (g44Ok m) (cok_cons (g45Ok m) (cok_cons (g39Ok m) cok_nil)))))
theorem g13Fn (m : Nat) : FnOk Go.Proofs.Try.prog 13 g13tp g13bp (fun {α} => g13K (g13 (α := α) m)) :=
  fn_ok (tab := tab) (h := g13h m) (fn := Go.Proofs.Try.f13) (F := fun {α} => g13K (g13 (α := α) m)) tabOk (g13Calls m) mixed (by kernel_rfl) (by kernel_rfl) (fun c hc => by
    rw [bodyOf_some hc]
    exact loopsOk_of _ (fun p hp => by rw [show loopsOf (bodyOf Go.Proofs.Try.f13) = [] by kernel_rfl] at hp; cases hp))
    (fun α ls k => g13Main (g35 m) (g37 m) (g44 m) (g45 m) (g39 m) ls k)
theorem g13Ok (m : Nat) : RowOk Go.Proofs.Try.prog 13 (fun {α} => rowK g13tp g13bp (g13K (g13 (α := α) m))) := row_of (g13Fn m)
end Go.Proofs.Ytbpljilgekneoaa.Sx
