/- Functions. Printed by our own sx.py. -/
import Derived.Test.YtlmmgjngihlpeaaSxT
namespace Go.Proofs.Ytlmmgjngihlpeaa.Sx
open Go
set_option linter.unusedVariables false
set_option maxRecDepth 100000
/-! ### g10: laws.f6big -/
def g10b {α : Type}   (m11 : Nat) (m12 : Nat) (m13 : Nat) (m14 : Nat) (u15 : List Int) (k17 : Bool → Option α) : Option α :=
  k17 (decide (((m12 : Nat) : Int) > (4096 : Int)))
def g10 {α : Type} (m : Nat) : Nat → Nat → Nat → Nat → (List Int) → (Bool → Option α) → Option α :=
  g10b
def g10tp : List TP := [(.vl (.sv (.sla 0 0 1)))]
def g10bp : List BP := [(false, [(.seqv (.int .u8))])]
def g10K {α : Type} (G : Nat → Nat → Nat → Nat → (List Int) → (Bool → Option α) → Option α) (ls : List Lf) (k : TV → List (List Seg) → List (List Seg) → Option α) : Option α :=
  G (lf ls 0).nat (lf ls 1).nat (lf ls 2).nat (lf ls 3).nat ((lf ls 4).lst (.int .u8))
    (fun y0 => k (.vl (.sv (.bool y0))) [[(.seq (.int .u8) (lf ls 3).nat ((lf ls 4).lst (.int .u8)))]] [])
def g10hd   : Hd where
  call := fun f args Bs k => none
  loop := fun id st k => none
  ro := fun f => []
def g10h (m : Nat) : Hd := g10hd
theorem g10Main   {α : Type} (ls : List Lf) (k : TV → List (List Seg) → List (List Seg) → Option α) :
    g10K (g10b) ls k = evFun tab (g10hd) Go.Proofs.Try.f10 (fillT g10tp ls).1 (fillB g10bp (fillT g10tp ls).2).1 k := by kernel_rfl
theorem g10Calls (m : Nat) : (g10h m).CallsOk Go.Proofs.Try.prog := cok_nil
theorem g10Fn (m : Nat) : FnOk Go.Proofs.Try.prog 10 g10tp g10bp (fun {α} => g10K (g10 (α := α) m)) :=
  fn_ok (tab := tab) (h := g10h m) (fn := Go.Proofs.Try.f10) (F := fun {α} => g10K (g10 (α := α) m)) tabOk (g10Calls m) mixed (by kernel_rfl) (by kernel_rfl) (fun c hc => by
    rw [bodyOf_some hc]
    exact loopsOk_of _ (fun p hp => by rw [show loopsOf (bodyOf Go.Proofs.Try.f10) = [] by kernel_rfl] at hp; cases hp))
    (fun α ls k => g10Main ls k)
theorem g10Ok (m : Nat) : RowOk Go.Proofs.Try.prog 10 (fun {α} => rowK g10tp g10bp (g10K (g10 (α := α) m))) := row_of (g10Fn m)

/-! ### g51: spec.l00From -/
def g51b {α : Type}   (m25 : Nat) (m26 : Nat) (m27 : Nat) (m28 : Nat) (u29 : List Int) (k30 : Option α) : Option α :=
  k30
def g51 {α : Type} (m : Nat) : Nat → Nat → Nat → Nat → (List Int) → (Option α) → Option α :=
  g51b
def g51tp : List TP := [(.vl (.sv (.sla 0 0 1)))]
def g51bp : List BP := [(false, [(.seqv (.int .u8))])]
def g51K {α : Type} (G : Nat → Nat → Nat → Nat → (List Int) → (Option α) → Option α) (ls : List Lf) (k : TV → List (List Seg) → List (List Seg) → Option α) : Option α :=
  G (lf ls 0).nat (lf ls 1).nat (lf ls 2).nat (lf ls 3).nat ((lf ls 4).lst (.int .u8))
    (k (.vl (.sv (.ptr 1 0))) [[(.seq (.int .u8) (lf ls 3).nat ((lf ls 4).lst (.int .u8)))]] [[(.one (.sla 0 0 1 (lf ls 0).nat (lf ls 1).nat (lf ls 2).nat)), (.one (.int .i64 (0 : Int))), (.one (.int .u64 (0 : Int)))]])
def g51hd   : Hd where
  call := fun f args Bs k => none
  loop := fun id st k => none
  ro := fun f => []
def g51h (m : Nat) : Hd := g51hd
theorem g51Main   {α : Type} (ls : List Lf) (k : TV → List (List Seg) → List (List Seg) → Option α) :
    g51K (g51b) ls k = evFun tab (g51hd) Go.Proofs.Try.f51 (fillT g51tp ls).1 (fillB g51bp (fillT g51tp ls).2).1 k := by kernel_rfl
theorem g51Calls (m : Nat) : (g51h m).CallsOk Go.Proofs.Try.prog := cok_nil
theorem g51Fn (m : Nat) : FnOk Go.Proofs.Try.prog 51 g51tp g51bp (fun {α} => g51K (g51 (α := α) m)) :=
  fn_ok (tab := tab) (h := g51h m) (fn := Go.Proofs.Try.f51) (F := fun {α} => g51K (g51 (α := α) m)) tabOk (g51Calls m) mixed (by kernel_rfl) (by kernel_rfl) (fun c hc => by
    rw [bodyOf_some hc]
    exact loopsOk_of _ (fun p hp => by rw [show loopsOf (bodyOf Go.Proofs.Try.f51) = [] by kernel_rfl] at hp; cases hp))
    (fun α ls k => g51Main ls k)
theorem g51Ok (m : Nat) : RowOk Go.Proofs.Try.prog 51 (fun {α} => rowK g51tp g51bp (g51K (g51 (α := α) m))) := row_of (g51Fn m)

/-! ### g106: (*spec.l00Src).next -/
def g106b {α : Type}   (m47 : Nat) (m48 : Nat) (m49 : Nat) (p50 : Int) (p51 : Int) (m52 : Nat) (u53 : List Int) (k74 : Int → Int → Int → Option α) : Option α :=
  cond (decide (p50 < ((m48 : Nat) : Int)))
   (
    if 0 ≤ p50 ∧ p50 < (m48 : Nat) then
      if (m47 + p50.toNat) < m52 then
        let x56 : Int := IntKind.wrap .i64 (List.getD u53 (m47 + p50.toNat) 0)
        let x57 : Int := IntKind.wrap .i64 (p50 + (1 : Int))
        let x61 : Int := IntKind.wrap .u64 ((IntKind.wrap .u64 ((IntKind.wrap .u64 (p51 * (6364136223846793005 : Int))) + (IntKind.wrap .u64 x56))) + (1442695040888963407 : Int))
        cond (decide (x57 ≤ ((m48 : Nat) : Int)))
        (
        k74 x56 x57 x61)
        (
        k74 (IntKind.wrap .i64 (ibits .and .u64 (Int.fdiv x61 (2 ^ 40)) (255 : Int))) x57 x61)
      else
        none
    else
      none)
   (
    let x66 : Int := IntKind.wrap .i64 (p50 + (1 : Int))
    let x69 : Int := IntKind.wrap .u64 ((IntKind.wrap .u64 ((IntKind.wrap .u64 (p51 * (6364136223846793005 : Int))) + (0 : Int))) + (1442695040888963407 : Int))
    cond (decide (x66 ≤ ((m48 : Nat) : Int)))
     (
      k74 (0 : Int) x66 x69)
     (
      k74 (IntKind.wrap .i64 (ibits .and .u64 (Int.fdiv x69 (2 ^ 40)) (255 : Int))) x66 x69))
def g106 {α : Type} (m : Nat) : Nat → Nat → Nat → Int → Int → Nat → (List Int) → (Int → Int → Int → Option α) → Option α :=
  g106b
def g106tp : List TP := [(.vl (.sv (.ptr 0 0)))]
def g106bp : List BP := [(true, [(.one (.sla 1 0 1)), (.one (.int .i64)), (.one (.int .u64))]), (false, [(.seqv (.int .u8))])]
def g106K {α : Type} (G : Nat → Nat → Nat → Int → Int → Nat → (List Int) → (Int → Int → Int → Option α) → Option α) (ls : List Lf) (k : TV → List (List Seg) → List (List Seg) → Option α) : Option α :=
  G (lf ls 0).nat (lf ls 1).nat (lf ls 2).nat (lf ls 3).int (lf ls 4).int (lf ls 5).nat ((lf ls 6).lst (.int .u8))
    (fun y0 y4 y5 => k (.vl (.sv (.int .i64 y0))) [[(.one (.sla 1 0 1 (lf ls 0).nat (lf ls 1).nat (lf ls 2).nat)), (.one (.int .i64 y4)), (.one (.int .u64 y5))], [(.seq (.int .u8) (lf ls 5).nat ((lf ls 6).lst (.int .u8)))]] [])
def g106hd   : Hd where
  call := fun f args Bs k => none
  loop := fun id st k => none
  ro := fun f => []
def g106h (m : Nat) : Hd := g106hd
theorem g106Main   {α : Type} (ls : List Lf) (k : TV → List (List Seg) → List (List Seg) → Option α) :
    g106K (g106b) ls k = evFun tab (g106hd) Go.Proofs.Try.f106 (fillT g106tp ls).1 (fillB g106bp (fillT g106tp ls).2).1 k := by kernel_rfl
theorem g106Calls (m : Nat) : (g106h m).CallsOk Go.Proofs.Try.prog := cok_nil
theorem g106Fn (m : Nat) : FnOk Go.Proofs.Try.prog 106 g106tp g106bp (fun {α} => g106K (g106 (α := α) m)) :=
  fn_ok (tab := tab) (h := g106h m) (fn := Go.Proofs.Try.f106) (F := fun {α} => g106K (g106 (α := α) m)) tabOk (g106Calls m) mixed (by kernel_rfl) (by kernel_rfl) (fun c hc => by
    rw [bodyOf_some hc]
    exact loopsOk_of _ (fun p hp => by rw [show loopsOf (bodyOf Go.Proofs.Try.f106) = [] by kernel_rfl] at hp; cases hp))
    (fun α ls k => g106Main ls k)
theorem g106Ok (m : Nat) : RowOk Go.Proofs.Try.prog 106 (fun {α} => rowK g106tp g106bp (g106K (g106 (α := α) m))) := row_of (g106Fn m)

/-! ### g67: (*spec.l00Src).pick -/
def g67b {α : Type} (G_g106 : {α : Type} → Nat → Nat → Nat → Int → Int → Nat → (List Int) → (Int → Int → Int → Option α) → Option α)  (p38 : Int) (m39 : Nat) (m40 : Nat) (m41 : Nat) (p42 : Int) (p43 : Int) (m44 : Nat) (u45 : List Int) (k86 : Int → Int → Int → Option α) : Option α :=
  cond (decide (p38 ≤ (1 : Int)))
   (
    k86 (0 : Int) p42 p43)
   (
    G_g106 m39 m40 m41 p42 p43 m44 u45
      (fun x75 x76 x77 =>
        cond (decide (p38 > (200 : Int)))
        (
        G_g106 m39 m40 m41 x76 x77 m44 u45
        (fun x80 x81 x82 =>
        if p38 = 0 then
        none
        else
        k86 (Int.tmod (IntKind.wrap .i64 ((IntKind.wrap .i64 (x75 * (256 : Int))) + x80)) p38) x81 x82))
        (
        if p38 = 0 then
        none
        else
        k86 (Int.tmod x75 p38) x76 x77)))
def g67 {α : Type} (m : Nat) : Int → Nat → Nat → Nat → Int → Int → Nat → (List Int) → (Int → Int → Int → Option α) → Option α :=
  g67b (g106 m)
def g67tp : List TP := [(.vl (.sv (.ptr 0 0))), (.vl (.sv (.int .i64)))]
def g67bp : List BP := [(true, [(.one (.sla 1 0 1)), (.one (.int .i64)), (.one (.int .u64))]), (false, [(.seqv (.int .u8))])]
def g67K {α : Type} (G : Int → Nat → Nat → Nat → Int → Int → Nat → (List Int) → (Int → Int → Int → Option α) → Option α) (ls : List Lf) (k : TV → List (List Seg) → List (List Seg) → Option α) : Option α :=
  G (lf ls 0).int (lf ls 1).nat (lf ls 2).nat (lf ls 3).nat (lf ls 4).int (lf ls 5).int (lf ls 6).nat ((lf ls 7).lst (.int .u8))
    (fun y0 y4 y5 => k (.vl (.sv (.int .i64 y0))) [[(.one (.sla 1 0 1 (lf ls 1).nat (lf ls 2).nat (lf ls 3).nat)), (.one (.int .i64 y4)), (.one (.int .u64 y5))], [(.seq (.int .u8) (lf ls 6).nat ((lf ls 7).lst (.int .u8)))]] [])
def g67hd (G_g106 : {α : Type} → Nat → Nat → Nat → Int → Int → Nat → (List Int) → (Int → Int → Int → Option α) → Option α)  : Hd where
  call := fun f args Bs k => cond (Nat.beq f 106) (rowK g106tp g106bp (g106K G_g106) args Bs k) (none)
  loop := fun id st k => none
  ro := fun f => cond (Nat.beq f 106) [1] ([])
def g67h (m : Nat) : Hd := g67hd (g106 m)
theorem g67Main (G_g106 : {α : Type} → Nat → Nat → Nat → Int → Int → Nat → (List Int) → (Int → Int → Int → Option α) → Option α)  {α : Type} (ls : List Lf) (k : TV → List (List Seg) → List (List Seg) → Option α) :
    g67K (g67b G_g106) ls k = evFun tab (g67hd G_g106) Go.Proofs.Try.f67 (fillT g67tp ls).1 (fillB g67bp (fillT g67tp ls).2).1 k := by kernel_rfl
theorem g67Calls (m : Nat) : (g67h m).CallsOk Go.Proofs.Try.prog := (cok_cons (g106Ok m) cok_nil)
theorem g67Fn (m : Nat) : FnOk Go.Proofs.Try.prog 67 g67tp g67bp (fun {α} => g67K (g67 (α := α) m)) :=
  fn_ok (tab := tab) (h := g67h m) (fn := Go.Proofs.Try.f67) (F := fun {α} => g67K (g67 (α := α) m)) tabOk (g67Calls m) mixed (by kernel_rfl) (by kernel_rfl) (fun c hc => by
    rw [bodyOf_some hc]
    exact loopsOk_of _ (fun p hp => by rw [show loopsOf (bodyOf Go.Proofs.Try.f67) = [] by kernel_rfl] at hp; cases hp))
    (fun α ls k => g67Main (g106 m) ls k)
theorem g67Ok (m : Nat) : RowOk Go.Proofs.Try.prog 67 (fun {α} => rowK g67tp g67bp (g67K (g67 (α := α) m))) := row_of (g67Fn m)

/-! ### g94: (*spec.l00Src).one -/
def g94b {α : Type} (G_g67 : {α : Type} → Int → Nat → Nat → Nat → Int → Int → Nat → (List Int) → (Int → Int → Int → Option α) → Option α)  (p136 : Int) (m137 : Nat) (m138 : Nat) (m139 : Nat) (p140 : Int) (p141 : Int) (m142 : Nat) (u143 : List Int) (k148 : Bool → Int → Int → Option α) : Option α :=
  G_g67 p136 m137 m138 m139 p140 p141 m142 u143
    (fun x144 x145 x146 =>
      k148 (x144 == (0 : Int)) x145 x146)
def g94 {α : Type} (m : Nat) : Int → Nat → Nat → Nat → Int → Int → Nat → (List Int) → (Bool → Int → Int → Option α) → Option α :=
  g94b (g67 m)
def g94tp : List TP := [(.vl (.sv (.ptr 0 0))), (.vl (.sv (.int .i64)))]
def g94bp : List BP := [(true, [(.one (.sla 1 0 1)), (.one (.int .i64)), (.one (.int .u64))]), (false, [(.seqv (.int .u8))])]
def g94K {α : Type} (G : Int → Nat → Nat → Nat → Int → Int → Nat → (List Int) → (Bool → Int → Int → Option α) → Option α) (ls : List Lf) (k : TV → List (List Seg) → List (List Seg) → Option α) : Option α :=
  G (lf ls 0).int (lf ls 1).nat (lf ls 2).nat (lf ls 3).nat (lf ls 4).int (lf ls 5).int (lf ls 6).nat ((lf ls 7).lst (.int .u8))
    (fun y0 y4 y5 => k (.vl (.sv (.bool y0))) [[(.one (.sla 1 0 1 (lf ls 1).nat (lf ls 2).nat (lf ls 3).nat)), (.one (.int .i64 y4)), (.one (.int .u64 y5))], [(.seq (.int .u8) (lf ls 6).nat ((lf ls 7).lst (.int .u8)))]] [])
def g94hd (G_g67 : {α : Type} → Int → Nat → Nat → Nat → Int → Int → Nat → (List Int) → (Int → Int → Int → Option α) → Option α)  : Hd where
  call := fun f args Bs k => cond (Nat.beq f 67) (rowK g67tp g67bp (g67K G_g67) args Bs k) (none)
  loop := fun id st k => none
  ro := fun f => cond (Nat.beq f 67) [1] ([])
def g94h (m : Nat) : Hd := g94hd (g67 m)
theorem g94Main (G_g67 : {α : Type} → Int → Nat → Nat → Nat → Int → Int → Nat → (List Int) → (Int → Int → Int → Option α) → Option α)  {α : Type} (ls : List Lf) (k : TV → List (List Seg) → List (List Seg) → Option α) :
    g94K (g94b G_g67) ls k = evFun tab (g94hd G_g67) Go.Proofs.Try.f94 (fillT g94tp ls).1 (fillB g94bp (fillT g94tp ls).2).1 k := by kernel_rfl
theorem g94Calls (m : Nat) : (g94h m).CallsOk Go.Proofs.Try.prog := (cok_cons (g67Ok m) cok_nil)
theorem g94Fn (m : Nat) : FnOk Go.Proofs.Try.prog 94 g94tp g94bp (fun {α} => g94K (g94 (α := α) m)) :=
  fn_ok (tab := tab) (h := g94h m) (fn := Go.Proofs.Try.f94) (F := fun {α} => g94K (g94 (α := α) m)) tabOk (g94Calls m) mixed (by kernel_rfl) (by kernel_rfl) (fun c hc => by
    rw [bodyOf_some hc]
    exact loopsOk_of _ (fun p hp => by rw [show loopsOf (bodyOf Go.Proofs.Try.f94) = [] by kernel_rfl] at hp; cases hp))
    (fun α ls k => g94Main (g67 m) ls k)
theorem g94Ok (m : Nat) : RowOk Go.Proofs.Try.prog 94 (fun {α} => rowK g94tp g94bp (g94K (g94 (α := α) m))) := row_of (g94Fn m)

/-! ### g95: spec.l01Zero -/
def g95b {α : Type}   (u154 : List Int) (k156 : Bool → Option α) : Option α :=
  k156 (eqLI u154 [0, 0, 0, 0, 0, 0])
def g95 {α : Type} (m : Nat) : (List Int) → (Bool → Option α) → Option α :=
  g95b
def g95tp : List TP := [(.vl (.sv (.ptr 0 0)))]
def g95bp : List BP := [(false, [(.seq (.int .u32) 6)])]
def g95K {α : Type} (G : (List Int) → (Bool → Option α) → Option α) (ls : List Lf) (k : TV → List (List Seg) → List (List Seg) → Option α) : Option α :=
  G ((lf ls 0).lst (.int .u32))
    (fun y0 => k (.vl (.sv (.bool y0))) [[(.seq (.int .u32) 6 ((lf ls 0).lst (.int .u32)))]] [])
def g95hd   : Hd where
  call := fun f args Bs k => none
  loop := fun id st k => none
  ro := fun f => []
def g95h (m : Nat) : Hd := g95hd
theorem g95Main   {α : Type} (ls : List Lf) (k : TV → List (List Seg) → List (List Seg) → Option α) :
    g95K (g95b) ls k = evFun tab (g95hd) Go.Proofs.Try.f95 (fillT g95tp ls).1 (fillB g95bp (fillT g95tp ls).2).1 k := by kernel_rfl
theorem g95Calls (m : Nat) : (g95h m).CallsOk Go.Proofs.Try.prog := cok_nil
theorem g95Fn (m : Nat) : FnOk Go.Proofs.Try.prog 95 g95tp g95bp (fun {α} => g95K (g95 (α := α) m)) :=
  fn_ok (tab := tab) (h := g95h m) (fn := Go.Proofs.Try.f95) (F := fun {α} => g95K (g95 (α := α) m)) tabOk (g95Calls m) mixed (by kernel_rfl) (by kernel_rfl) (fun c hc => by
    rw [bodyOf_some hc]
    exact loopsOk_of _ (fun p hp => by rw [show loopsOf (bodyOf Go.Proofs.Try.f95) = [] by kernel_rfl] at hp; cases hp))
    (fun α ls k => g95Main ls k)
theorem g95Ok (m : Nat) : RowOk Go.Proofs.Try.prog 95 (fun {α} => rowK g95tp g95bp (g95K (g95 (α := α) m))) := row_of (g95Fn m)

/-! ### g52: spec.l01Made -/
def g52b {α : Type} (G_g95 : {α : Type} → (List Int) → (Bool → Option α) → Option α)  (q152 : Bool) (u153 : List Int) (k159 : Bool → Option α) : Option α :=
  cond q152
   (
    G_g95 u153
      (fun b157 =>
        k159 (!b157)))
   (
    k159 false)
def g52 {α : Type} (m : Nat) : Bool → (List Int) → (Bool → Option α) → Option α :=
  g52b (g95 m)
def g52tp : List TP := [(.vl (.sv .bool)), (.vl (.agg [(.seq (.int .u32) 6)]))]
def g52bp : List BP := []
def g52K {α : Type} (G : Bool → (List Int) → (Bool → Option α) → Option α) (ls : List Lf) (k : TV → List (List Seg) → List (List Seg) → Option α) : Option α :=
  G (lf ls 0).bool ((lf ls 1).lst (.int .u32))
    (fun y0 => k (.vl (.agg [(.one (.bool y0)), (.seq (.int .u32) 6 ((lf ls 1).lst (.int .u32)))])) [] [])
def g52hd (G_g95 : {α : Type} → (List Int) → (Bool → Option α) → Option α)  : Hd where
  call := fun f args Bs k => cond (Nat.beq f 95) (rowK g95tp g95bp (g95K G_g95) args Bs k) (none)
  loop := fun id st k => none
  ro := fun f => cond (Nat.beq f 95) [0] ([])
def g52h (m : Nat) : Hd := g52hd (g95 m)
theorem g52Main (G_g95 : {α : Type} → (List Int) → (Bool → Option α) → Option α)  {α : Type} (ls : List Lf) (k : TV → List (List Seg) → List (List Seg) → Option α) :
    g52K (g52b G_g95) ls k = evFun tab (g52hd G_g95) Go.Proofs.Try.f52 (fillT g52tp ls).1 (fillB g52bp (fillT g52tp ls).2).1 k := by kernel_rfl
theorem g52Calls (m : Nat) : (g52h m).CallsOk Go.Proofs.Try.prog := (cok_cons (g95Ok m) cok_nil)
theorem g52Fn (m : Nat) : FnOk Go.Proofs.Try.prog 52 g52tp g52bp (fun {α} => g52K (g52 (α := α) m)) :=
  fn_ok (tab := tab) (h := g52h m) (fn := Go.Proofs.Try.f52) (F := fun {α} => g52K (g52 (α := α) m)) tabOk (g52Calls m) mixed (by kernel_rfl) (by kernel_rfl) (fun c hc => by
    rw [bodyOf_some hc]
    exact loopsOk_of _ (fun p hp => by rw [show loopsOf (bodyOf Go.Proofs.Try.f52) = [] by kernel_rfl] at hp; cases hp))
    (fun α ls k => g52Main (g95 m) ls k)
theorem g52Ok (m : Nat) : RowOk Go.Proofs.Try.prog 52 (fun {α} => rowK g52tp g52bp (g52K (g52 (α := α) m))) := row_of (g52Fn m)

/-! ### g50: spec.l01Drawn -/
def g50l0b {α : Type} (G_g67 : {α : Type} → Int → Nat → Nat → Nat → Int → Int → Nat → (List Int) → (Int → Int → Int → Option α) → Option α)  (v90 : Int) (m92 : Nat) (m93 : Nat) (m94 : Nat) (m97 : Nat) (a98 : List Int) (c99 : Bool) (a100 : List Int) (k131 : Int → Int → (List Int) → Option α) (r132 : Int → Int → Int → (List Int) → Option α) (v91 : Int) (v95 : Int) (v96 : Int) (a101 : List Int) : Option α :=
  cond (decide (v91 < v90))
   (
    G_g67 (4 : Int) m92 m93 m94 v95 v96 m97 a98
      (fun x103 x104 x105 =>
        cond (x103 == (0 : Int))
        (
        G_g67 (60000 : Int) m92 m93 m94 x104 x105 m97 a98
        (fun x107 x108 x109 =>
        if 0 ≤ v91 ∧ v91 < (6 : Nat) then
        if v91.toNat < 6 then
        r132 (IntKind.wrap .i64 (v91 + (1 : Int))) x108 x109 (List.set a101 (v91.toNat) (IntKind.wrap .u32 ((IntKind.wrap .u32 x107) * (65521 : Int))))
        else
        none
        else
        none))
        (
        cond (x103 == (1 : Int))
        (
        if 0 ≤ v91 ∧ v91 < (6 : Nat) then
        if v91.toNat < 6 then
        r132 (IntKind.wrap .i64 (v91 + (1 : Int))) x104 x105 (List.set a101 (v91.toNat) (4294967295 : Int))
        else
        none
        else
        none)
        (
        cond (x103 == (2 : Int))
        (
        G_g67 (5 : Int) m92 m93 m94 x104 x105 m97 a98
        (fun x118 x119 x120 =>
        if 0 ≤ v91 ∧ v91 < (6 : Nat) then
        if v91.toNat < 6 then
        r132 (IntKind.wrap .i64 (v91 + (1 : Int))) x119 x120 (List.set a101 (v91.toNat) (IntKind.wrap .u32 x118))
        else
        none
        else
        none))
        (
        G_g67 (32 : Int) m92 m93 m94 x104 x105 m97 a98
        (fun x124 x125 x126 =>
        let x127 : Int := IntKind.wrap .u64 x124
        if x127 < 0 then
        none
        else
        if 0 ≤ v91 ∧ v91 < (6 : Nat) then
        if v91.toNat < 6 then
        r132 (IntKind.wrap .i64 (v91 + (1 : Int))) x125 x126 (List.set a101 (v91.toNat) (IntKind.wrap .u32 ((1 : Int) * 2 ^ (min x127.toNat 32))))
        else
        none
        else
        none))))))
   (
    k131 v95 v96 a101)
def g50l0 {α : Type} (G_g67 : {α : Type} → Int → Nat → Nat → Nat → Int → Int → Nat → (List Int) → (Int → Int → Int → Option α) → Option α)  (v90 : Int) (m92 : Nat) (m93 : Nat) (m94 : Nat) (m97 : Nat) (a98 : List Int) (c99 : Bool) (a100 : List Int) (k131 : Int → Int → (List Int) → Option α) : Nat → Int → Int → Int → (List Int) → Option α
  | 0 => fun _ _ _ _ => none
  | m + 1 => fun v91 v95 v96 a101 => g50l0b G_g67 v90 m92 m93 m94 m97 a98 c99 a100 k131 (g50l0 G_g67 v90 m92 m93 m94 m97 a98 c99 a100 k131 m) v91 v95 v96 a101
def g50l0M {α : Type} (m : Nat) : Int → Nat → Nat → Nat → Nat → (List Int) → Bool → (List Int) → (Int → Int → (List Int) → Option α) → Int → Int → Int → (List Int) → Option α :=
  fun v90 m92 m93 m94 m97 a98 c99 a100 k131 v91 v95 v96 a101 => g50l0 (g67 m) v90 m92 m93 m94 m97 a98 c99 a100 k131 m v91 v95 v96 a101
def g50l0D : LoopD := { n := 45, low := [0, 1], sl := [0, 2, 3, 4, 5], bl := [0, 1, 1000002, 1000003], tp := [(.vl (.sv (.ptr 0 0))), (.vl (.sv (.ptr 1000002 0))), (.vl (.sv (.ptr 1000003 0))), (.vl (.sv (.int .i64))), (.vl (.sv (.int .i64)))], bp := [(true, [(.one (.sla 1 0 1)), (.one (.int .i64)), (.one (.int .u64))]), (false, [(.seqv (.int .u8))]), (true, [(.one .bool), (.seq (.int .u32) 6)]), (true, [(.seq (.int .u32) 6)])], xs := [(2, [0, 2, 3])] }
def g50l0K {α : Type} (L : Int → Nat → Nat → Nat → Nat → (List Int) → Bool → (List Int) → (Int → Int → (List Int) → Option α) → Int → Int → Int → (List Int) → Option α) (ls : List Lf) (k : Ex → St → Option α) : Option α :=
  L (lf ls 0).int (lf ls 2).nat (lf ls 3).nat (lf ls 4).nat (lf ls 7).nat ((lf ls 8).lst (.int .u8)) (lf ls 9).bool ((lf ls 10).lst (.int .u32))
    (fun y3 y4 y9 => k .normal (mkSt 45 [0, 2, 3] [(.vl (.sv (.ptr 0 0))), (.vl (.sv (.ptr 1000002 0))), (.vl (.sv (.ptr 1000003 0)))] [0, 1, 1000002, 1000003] [(true, [(.one (.sla 1 0 1 (lf ls 2).nat (lf ls 3).nat (lf ls 4).nat)), (.one (.int .i64 y3)), (.one (.int .u64 y4))]), (false, [(.seq (.int .u8) (lf ls 7).nat ((lf ls 8).lst (.int .u8)))]), (true, [(.one (.bool (lf ls 9).bool)), (.seq (.int .u32) 6 ((lf ls 10).lst (.int .u32)))]), (true, [(.seq (.int .u32) 6 y9)])]))
    (lf ls 1).int (lf ls 5).int (lf ls 6).int ((lf ls 11).lst (.int .u32))
def g50b {α : Type} (G_g67 : {α : Type} → Int → Nat → Nat → Nat → Int → Int → Nat → (List Int) → (Int → Int → Int → Option α) → Option α) (G_g94 : {α : Type} → Int → Nat → Nat → Nat → Int → Int → Nat → (List Int) → (Bool → Int → Int → Option α) → Option α) (G_g52 : {α : Type} → Bool → (List Int) → (Bool → Option α) → Option α) (L_g50l0 : {α : Type} → Int → Nat → Nat → Nat → Nat → (List Int) → Bool → (List Int) → (Int → Int → (List Int) → Option α) → Int → Int → Int → (List Int) → Option α) (m31 : Nat) (m32 : Nat) (m33 : Nat) (p34 : Int) (p35 : Int) (m36 : Nat) (u37 : List Int) (k161 : Bool → (List Int) → Int → Int → Option α) : Option α :=
  G_g67 (7 : Int) m31 m32 m33 p34 p35 m36 u37
    (fun x87 x88 x89 =>
      L_g50l0 x87 m31 m32 m33 m36 u37 false [0, 0, 0, 0, 0, 0]
        (fun x133 x134 l135 =>
        G_g94 (3 : Int) m31 m32 m33 x133 x134 m36 u37
        (fun b149 x150 x151 =>
        G_g52 b149 l135
        (fun b160 =>
        k161 b160 l135 x150 x151)))
        (0 : Int) x88 x89 [0, 0, 0, 0, 0, 0])
def g50 {α : Type} (m : Nat) : Nat → Nat → Nat → Int → Int → Nat → (List Int) → (Bool → (List Int) → Int → Int → Option α) → Option α :=
  g50b (g67 m) (g94 m) (g52 m) (g50l0M m)
def g50tp : List TP := [(.vl (.sv (.ptr 0 0)))]
def g50bp : List BP := [(true, [(.one (.sla 1 0 1)), (.one (.int .i64)), (.one (.int .u64))]), (false, [(.seqv (.int .u8))])]
def g50K {α : Type} (G : Nat → Nat → Nat → Int → Int → Nat → (List Int) → (Bool → (List Int) → Int → Int → Option α) → Option α) (ls : List Lf) (k : TV → List (List Seg) → List (List Seg) → Option α) : Option α :=
  G (lf ls 0).nat (lf ls 1).nat (lf ls 2).nat (lf ls 3).int (lf ls 4).int (lf ls 5).nat ((lf ls 6).lst (.int .u8))
    (fun y0 y1 y5 y6 => k (.vl (.agg [(.one (.bool y0)), (.seq (.int .u32) 6 y1)])) [[(.one (.sla 1 0 1 (lf ls 0).nat (lf ls 1).nat (lf ls 2).nat)), (.one (.int .i64 y5)), (.one (.int .u64 y6))], [(.seq (.int .u8) (lf ls 5).nat ((lf ls 6).lst (.int .u8)))]] [])
def g50hd (G_g67 : {α : Type} → Int → Nat → Nat → Nat → Int → Int → Nat → (List Int) → (Int → Int → Int → Option α) → Option α) (G_g94 : {α : Type} → Int → Nat → Nat → Nat → Int → Int → Nat → (List Int) → (Bool → Int → Int → Option α) → Option α) (G_g52 : {α : Type} → Bool → (List Int) → (Bool → Option α) → Option α) (L_g50l0 : {α : Type} → Int → Nat → Nat → Nat → Nat → (List Int) → Bool → (List Int) → (Int → Int → (List Int) → Option α) → Int → Int → Int → (List Int) → Option α) : Hd where
  call := fun f args Bs k => cond (Nat.beq f 67) (rowK g67tp g67bp (g67K G_g67) args Bs k) (cond (Nat.beq f 94) (rowK g94tp g94bp (g94K G_g94) args Bs k) (cond (Nat.beq f 52) (rowK g52tp g52bp (g52K G_g52) args Bs k) (none)))
  loop := fun id st k => cond (Nat.beq id 0) (loopH g50l0D (g50l0K L_g50l0) st k) (none)
  ro := fun f => cond (Nat.beq f 67) [1] (cond (Nat.beq f 94) [1] ([]))
def g50h (m : Nat) : Hd := g50hd (g67 m) (g94 m) (g52 m) (g50l0M m)
theorem g50l0Step (G_g67 : {α : Type} → Int → Nat → Nat → Nat → Int → Int → Nat → (List Int) → (Int → Int → Int → Option α) → Option α) (G_g94 : {α : Type} → Int → Nat → Nat → Nat → Int → Int → Nat → (List Int) → (Bool → Int → Int → Option α) → Option α) (G_g52 : {α : Type} → Bool → (List Int) → (Bool → Option α) → Option α) (L_g50l0 : {α : Type} → Int → Nat → Nat → Nat → Nat → (List Int) → Bool → (List Int) → (Int → Int → (List Int) → Option α) → Int → Int → Int → (List Int) → Option α) {α : Type} (L : Int → Nat → Nat → Nat → Nat → (List Int) → Bool → (List Int) → (Int → Int → (List Int) → Option α) → Int → Int → Int → (List Int) → Option α) (ls : List Lf) (k : Ex → St → Option α) :
    g50l0K (fun v90 m92 m93 m94 m97 a98 c99 a100 k131 v91 v95 v96 a101 => g50l0b G_g67 v90 m92 m93 m94 m97 a98 c99 a100 k131 (L v90 m92 m93 m94 m97 a98 c99 a100 k131) v91 v95 v96 a101) ls k = ev tab (g50hd G_g67 G_g94 G_g52 L_g50l0) (bodyAt Go.Proofs.Try.f50 0) (atHead g50l0D ls) (loopK g50l0D 0 (loopH g50l0D (g50l0K L)) k) := by kernel_rfl
theorem g50Main (G_g67 : {α : Type} → Int → Nat → Nat → Nat → Int → Int → Nat → (List Int) → (Int → Int → Int → Option α) → Option α) (G_g94 : {α : Type} → Int → Nat → Nat → Nat → Int → Int → Nat → (List Int) → (Bool → Int → Int → Option α) → Option α) (G_g52 : {α : Type} → Bool → (List Int) → (Bool → Option α) → Option α) (L_g50l0 : {α : Type} → Int → Nat → Nat → Nat → Nat → (List Int) → Bool → (List Int) → (Int → Int → (List Int) → Option α) → Int → Int → Int → (List Int) → Option α) {α : Type} (ls : List Lf) (k : TV → List (List Seg) → List (List Seg) → Option α) :
    g50K (g50b G_g67 G_g94 G_g52 L_g50l0) ls k = evFun tab (g50hd G_g67 G_g94 G_g52 L_g50l0) Go.Proofs.Try.f50 (fillT g50tp ls).1 (fillB g50bp (fillT g50tp ls).2).1 k := by kernel_rfl
theorem g50Calls (m : Nat) : (g50h m).CallsOk Go.Proofs.Try.prog := (cok_cons (g67Ok m) (cok_cons (g94Ok m) (cok_cons (g52Ok m) cok_nil)))
theorem g50l0Ok (m : Nat) (α : Type) (st : St) (k : Ex → St → Option α) (r : α) (h : (g50h m).loop 0 st k = some r) :
    ∃ e st', k e st' = some r ∧ CodeS Go.Proofs.Try.prog (.block 0 (.loop (bodyAt Go.Proofs.Try.f50 0))) st e st' :=
  loop_ok (tab := tab) (h := g50h m) (F := fun n ls k => g50l0K (fun v90 m92 m93 m94 m97 a98 c99 a100 k131 v91 v95 v96 a101 => g50l0 (g67 m) v90 m92 m93 m94 m97 a98 c99 a100 k131 n v91 v95 v96 a101) ls k) tabOk (g50Calls m) mixed (loopsOk_of _ (fun p hp => by rw [show loopsOf (bodyAt Go.Proofs.Try.f50 0) = [] by kernel_rfl] at hp; cases hp))
    (fun _ _ => rfl) (fun n ls k => g50l0Step (g67 m) (g94 m) (g52 m) (g50l0M m) (fun v90 m92 m93 m94 m97 a98 c99 a100 k131 => g50l0 (g67 m) v90 m92 m93 m94 m97 a98 c99 a100 k131 n) ls k) (n := m) h
theorem g50Fn (m : Nat) : FnOk Go.Proofs.Try.prog 50 g50tp g50bp (fun {α} => g50K (g50 (α := α) m)) :=
  fn_ok (tab := tab) (h := g50h m) (fn := Go.Proofs.Try.f50) (F := fun {α} => g50K (g50 (α := α) m)) tabOk (g50Calls m) mixed (by kernel_rfl) (by kernel_rfl) (fun c hc => by
    rw [bodyOf_some hc]
    exact loopsOk_of _ (fun p hp => by
    rw [show loopsOf (bodyOf Go.Proofs.Try.f50) = [(0, bodyAt Go.Proofs.Try.f50 0)] by kernel_rfl] at hp
    simp only [List.mem_cons, List.not_mem_nil, or_false] at hp
    rcases hp with rfl
    exact g50l0Ok m))
    (fun α ls k => g50Main (g67 m) (g94 m) (g52 m) (g50l0M m) ls k)
theorem g50Ok (m : Nat) : RowOk Go.Proofs.Try.prog 50 (fun {α} => rowK g50tp g50bp (g50K (g50 (α := α) m))) := row_of (g50Fn m)

/-! ### g11: spec.P6Wide -/
def g11b {α : Type} (G_g51 : {α : Type} → Nat → Nat → Nat → Nat → (List Int) → (Option α) → Option α) (G_g50 : {α : Type} → Nat → Nat → Nat → Int → Int → Nat → (List Int) → (Bool → (List Int) → Int → Int → Option α) → Option α)  (m20 : Nat) (m21 : Nat) (m22 : Nat) (m23 : Nat) (u24 : List Int) (k166 : Bool → (List Int) → Option α) : Option α :=
  G_g51 m20 m21 m22 m23 u24
    (
      G_g50 m20 m21 m22 (0 : Int) (0 : Int) m23 u24
        (fun b162 l163 x164 x165 =>
        k166 b162 l163))
def g11 {α : Type} (m : Nat) : Nat → Nat → Nat → Nat → (List Int) → (Bool → (List Int) → Option α) → Option α :=
  g11b (g51 m) (g50 m)
def g11tp : List TP := [(.vl (.sv (.sla 0 0 1)))]
def g11bp : List BP := [(false, [(.seqv (.int .u8))])]
def g11K {α : Type} (G : Nat → Nat → Nat → Nat → (List Int) → (Bool → (List Int) → Option α) → Option α) (ls : List Lf) (k : TV → List (List Seg) → List (List Seg) → Option α) : Option α :=
  G (lf ls 0).nat (lf ls 1).nat (lf ls 2).nat (lf ls 3).nat ((lf ls 4).lst (.int .u8))
    (fun y0 y1 => k (.vl (.agg [(.one (.bool y0)), (.seq (.int .u32) 6 y1)])) [[(.seq (.int .u8) (lf ls 3).nat ((lf ls 4).lst (.int .u8)))]] [])
def g11hd (G_g51 : {α : Type} → Nat → Nat → Nat → Nat → (List Int) → (Option α) → Option α) (G_g50 : {α : Type} → Nat → Nat → Nat → Int → Int → Nat → (List Int) → (Bool → (List Int) → Int → Int → Option α) → Option α)  : Hd where
  call := fun f args Bs k => cond (Nat.beq f 51) (rowK g51tp g51bp (g51K G_g51) args Bs k) (cond (Nat.beq f 50) (rowK g50tp g50bp (g50K G_g50) args Bs k) (none))
  loop := fun id st k => none
  ro := fun f => cond (Nat.beq f 50) [1] (cond (Nat.beq f 51) [0] ([]))
def g11h (m : Nat) : Hd := g11hd (g51 m) (g50 m)
theorem g11Main (G_g51 : {α : Type} → Nat → Nat → Nat → Nat → (List Int) → (Option α) → Option α) (G_g50 : {α : Type} → Nat → Nat → Nat → Int → Int → Nat → (List Int) → (Bool → (List Int) → Int → Int → Option α) → Option α)  {α : Type} (ls : List Lf) (k : TV → List (List Seg) → List (List Seg) → Option α) :
    g11K (g11b G_g51 G_g50) ls k = evFun tab (g11hd G_g51 G_g50) Go.Proofs.Try.f11 (fillT g11tp ls).1 (fillB g11bp (fillT g11tp ls).2).1 k := by kernel_rfl
theorem g11Calls (m : Nat) : (g11h m).CallsOk Go.Proofs.Try.prog := (cok_cons (g51Ok m) (cok_cons (g50Ok m) cok_nil))
theorem g11Fn (m : Nat) : FnOk Go.Proofs.Try.prog 11 g11tp g11bp (fun {α} => g11K (g11 (α := α) m)) :=
  fn_ok (tab := tab) (h := g11h m) (fn := Go.Proofs.Try.f11) (F := fun {α} => g11K (g11 (α := α) m)) tabOk (g11Calls m) mixed (by kernel_rfl) (by kernel_rfl) (fun c hc => by
    rw [bodyOf_some hc]
    exact loopsOk_of _ (fun p hp => by rw [show loopsOf (bodyOf Go.Proofs.Try.f11) = [] by kernel_rfl] at hp; cases hp))
    (fun α ls k => g11Main (g51 m) (g50 m) ls k)
theorem g11Ok (m : Nat) : RowOk Go.Proofs.Try.prog 11 (fun {α} => rowK g11tp g11bp (g11K (g11 (α := α) m))) := row_of (g11Fn m)

/-! ### g12: spec.P6Half -/
def g12b {α : Type} (G_g51 : {α : Type} → Nat → Nat → Nat → Nat → (List Int) → (Option α) → Option α) (G_g50 : {α : Type} → Nat → Nat → Nat → Int → Int → Nat → (List Int) → (Bool → (List Int) → Int → Int → Option α) → Option α) (G_g52 : {α : Type} → Bool → (List Int) → (Bool → Option α) → Option α)  (m169 : Nat) (m170 : Nat) (m171 : Nat) (m172 : Nat) (u173 : List Int) (k183 : Bool → (List Int) → Option α) : Option α :=
  G_g51 m169 m170 m171 m172 u173
    (
      G_g50 m169 m170 m171 (0 : Int) (0 : Int) m172 u173
        (fun b174 l175 x176 x177 =>
        let x178 : Int := List.getD l175 0 0
        let x179 : Int := List.getD l175 1 0
        let x181 : Int := Int.fdiv (List.getD l175 2 0) (2 ^ 6)
        G_g52 b174 [x178, x179, x181, 0, 0, 0]
        (fun b182 =>
        k183 b182 [x178, x179, x181, 0, 0, 0])))
def g12 {α : Type} (m : Nat) : Nat → Nat → Nat → Nat → (List Int) → (Bool → (List Int) → Option α) → Option α :=
  g12b (g51 m) (g50 m) (g52 m)
def g12tp : List TP := [(.vl (.sv (.sla 0 0 1)))]
def g12bp : List BP := [(false, [(.seqv (.int .u8))])]
def g12K {α : Type} (G : Nat → Nat → Nat → Nat → (List Int) → (Bool → (List Int) → Option α) → Option α) (ls : List Lf) (k : TV → List (List Seg) → List (List Seg) → Option α) : Option α :=
  G (lf ls 0).nat (lf ls 1).nat (lf ls 2).nat (lf ls 3).nat ((lf ls 4).lst (.int .u8))
    (fun y0 y1 => k (.vl (.agg [(.one (.bool y0)), (.seq (.int .u32) 6 y1)])) [[(.seq (.int .u8) (lf ls 3).nat ((lf ls 4).lst (.int .u8)))]] [])
def g12hd (G_g51 : {α : Type} → Nat → Nat → Nat → Nat → (List Int) → (Option α) → Option α) (G_g50 : {α : Type} → Nat → Nat → Nat → Int → Int → Nat → (List Int) → (Bool → (List Int) → Int → Int → Option α) → Option α) (G_g52 : {α : Type} → Bool → (List Int) → (Bool → Option α) → Option α)  : Hd where
  call := fun f args Bs k => cond (Nat.beq f 51) (rowK g51tp g51bp (g51K G_g51) args Bs k) (cond (Nat.beq f 50) (rowK g50tp g50bp (g50K G_g50) args Bs k) (cond (Nat.beq f 52) (rowK g52tp g52bp (g52K G_g52) args Bs k) (none)))
  loop := fun id st k => none
  ro := fun f => cond (Nat.beq f 50) [1] (cond (Nat.beq f 51) [0] ([]))
def g12h (m : Nat) : Hd := g12hd (g51 m) (g50 m) (g52 m)
theorem g12Main (G_g51 : {α : Type} → Nat → Nat → Nat → Nat → (List Int) → (Option α) → Option α) (G_g50 : {α : Type} → Nat → Nat → Nat → Int → Int → Nat → (List Int) → (Bool → (List Int) → Int → Int → Option α) → Option α) (G_g52 : {α : Type} → Bool → (List Int) → (Bool → Option α) → Option α)  {α : Type} (ls : List Lf) (k : TV → List (List Seg) → List (List Seg) → Option α) :
    g12K (g12b G_g51 G_g50 G_g52) ls k = evFun tab (g12hd G_g51 G_g50 G_g52) Go.Proofs.Try.f12 (fillT g12tp ls).1 (fillB g12bp (fillT g12tp ls).2).1 k := by kernel_rfl
theorem g12Calls (m : Nat) : (g12h m).CallsOk Go.Proofs.Try.prog := (cok_cons (g51Ok m) (cok_cons (g50Ok m) (cok_cons (g52Ok m) cok_nil)))
theorem g12Fn (m : Nat) : FnOk Go.Proofs.Try.prog 12 g12tp g12bp (fun {α} => g12K (g12 (α := α) m)) :=
  fn_ok (tab := tab) (h := g12h m) (fn := Go.Proofs.Try.f12) (F := fun {α} => g12K (g12 (α := α) m)) tabOk (g12Calls m) mixed (by kernel_rfl) (by kernel_rfl) (fun c hc => by
    rw [bodyOf_some hc]
    exact loopsOk_of _ (fun p hp => by rw [show loopsOf (bodyOf Go.Proofs.Try.f12) = [] by kernel_rfl] at hp; cases hp))
    (fun α ls k => g12Main (g51 m) (g50 m) (g52 m) ls k)
theorem g12Ok (m : Nat) : RowOk Go.Proofs.Try.prog 12 (fun {α} => rowK g12tp g12bp (g12K (g12 (α := α) m))) := row_of (g12Fn m)

/-! ### g53: impl.ValidWide -/
def g53b {α : Type}   (q191 : Bool) (u192 : List Int) (k195 : Bool → Option α) : Option α :=
  cond (!q191)
   (
    k195 true)
   (
    k195 (!(eqLI u192 [0, 0, 0, 0, 0, 0])))
def g53 {α : Type} (m : Nat) : Bool → (List Int) → (Bool → Option α) → Option α :=
  g53b
def g53tp : List TP := [(.vl (.agg [(.one .bool), (.seq (.int .u32) 6)]))]
def g53bp : List BP := []
def g53K {α : Type} (G : Bool → (List Int) → (Bool → Option α) → Option α) (ls : List Lf) (k : TV → List (List Seg) → List (List Seg) → Option α) : Option α :=
  G (lf ls 0).bool ((lf ls 1).lst (.int .u32))
    (fun y0 => k (.vl (.sv (.bool y0))) [] [])
def g53hd   : Hd where
  call := fun f args Bs k => none
  loop := fun id st k => none
  ro := fun f => []
def g53h (m : Nat) : Hd := g53hd
theorem g53Main   {α : Type} (ls : List Lf) (k : TV → List (List Seg) → List (List Seg) → Option α) :
    g53K (g53b) ls k = evFun tab (g53hd) Go.Proofs.Try.f53 (fillT g53tp ls).1 (fillB g53bp (fillT g53tp ls).2).1 k := by kernel_rfl
theorem g53Calls (m : Nat) : (g53h m).CallsOk Go.Proofs.Try.prog := cok_nil
theorem g53Fn (m : Nat) : FnOk Go.Proofs.Try.prog 53 g53tp g53bp (fun {α} => g53K (g53 (α := α) m)) :=
  fn_ok (tab := tab) (h := g53h m) (fn := Go.Proofs.Try.f53) (F := fun {α} => g53K (g53 (α := α) m)) tabOk (g53Calls m) mixed (by kernel_rfl) (by kernel_rfl) (fun c hc => by
    rw [bodyOf_some hc]
    exact loopsOk_of _ (fun p hp => by rw [show loopsOf (bodyOf Go.Proofs.Try.f53) = [] by kernel_rfl] at hp; cases hp))
    (fun α ls k => g53Main ls k)
theorem g53Ok (m : Nat) : RowOk Go.Proofs.Try.prog 53 (fun {α} => rowK g53tp g53bp (g53K (g53 (α := α) m))) := row_of (g53Fn m)

/-! ### g54: impl.sign -/
def g54b {α : Type}   (q200 : Bool) (u201 : List Int) (k203 : Int → Option α) : Option α :=
  cond q200
   (
    k203 (-1 : Int))
   (
    cond (eqLI u201 [0, 0, 0, 0, 0, 0])
     (
      k203 (0 : Int))
     (
      k203 (1 : Int)))
def g54 {α : Type} (m : Nat) : Bool → (List Int) → (Int → Option α) → Option α :=
  g54b
def g54tp : List TP := [(.vl (.agg [(.one .bool), (.seq (.int .u32) 6)]))]
def g54bp : List BP := []
def g54K {α : Type} (G : Bool → (List Int) → (Int → Option α) → Option α) (ls : List Lf) (k : TV → List (List Seg) → List (List Seg) → Option α) : Option α :=
  G (lf ls 0).bool ((lf ls 1).lst (.int .u32))
    (fun y0 => k (.vl (.sv (.int .i64 y0))) [] [])
def g54hd   : Hd where
  call := fun f args Bs k => none
  loop := fun id st k => none
  ro := fun f => []
def g54h (m : Nat) : Hd := g54hd
theorem g54Main   {α : Type} (ls : List Lf) (k : TV → List (List Seg) → List (List Seg) → Option α) :
    g54K (g54b) ls k = evFun tab (g54hd) Go.Proofs.Try.f54 (fillT g54tp ls).1 (fillB g54bp (fillT g54tp ls).2).1 k := by kernel_rfl
theorem g54Calls (m : Nat) : (g54h m).CallsOk Go.Proofs.Try.prog := cok_nil
theorem g54Fn (m : Nat) : FnOk Go.Proofs.Try.prog 54 g54tp g54bp (fun {α} => g54K (g54 (α := α) m)) :=
  fn_ok (tab := tab) (h := g54h m) (fn := Go.Proofs.Try.f54) (F := fun {α} => g54K (g54 (α := α) m)) tabOk (g54Calls m) mixed (by kernel_rfl) (by kernel_rfl) (fun c hc => by
    rw [bodyOf_some hc]
    exact loopsOk_of _ (fun p hp => by rw [show loopsOf (bodyOf Go.Proofs.Try.f54) = [] by kernel_rfl] at hp; cases hp))
    (fun α ls k => g54Main ls k)
theorem g54Ok (m : Nat) : RowOk Go.Proofs.Try.prog 54 (fun {α} => rowK g54tp g54bp (g54K (g54 (α := α) m))) := row_of (g54Fn m)

/-! ### g125: math/bits.Len32 -/
def g125b {α : Type}   (p220 : Int) (k243 : Int → Option α) : Option α :=
  cond (decide (p220 ≥ (65536 : Int)))
   (
    let x222 : Int := Int.fdiv p220 (2 ^ 16)
    cond (decide (x222 ≥ (256 : Int)))
     (
      let x225 : Int := IntKind.wrap .u8 (Int.fdiv x222 (2 ^ 8))
      if 0 ≤ x225 ∧ x225 < strC0.size then
        k243 (IntKind.wrap .i64 ((24 : Int) + (IntKind.wrap .i64 (byteAt strC0 x225.toNat))))
      else
        none)
     (
      let x229 : Int := IntKind.wrap .u8 x222
      if 0 ≤ x229 ∧ x229 < strC0.size then
        k243 (IntKind.wrap .i64 ((16 : Int) + (IntKind.wrap .i64 (byteAt strC0 x229.toNat))))
      else
        none))
   (
    cond (decide (p220 ≥ (256 : Int)))
     (
      let x235 : Int := IntKind.wrap .u8 (Int.fdiv p220 (2 ^ 8))
      if 0 ≤ x235 ∧ x235 < strC0.size then
        k243 (IntKind.wrap .i64 ((8 : Int) + (IntKind.wrap .i64 (byteAt strC0 x235.toNat))))
      else
        none)
     (
      let x239 : Int := IntKind.wrap .u8 p220
      if 0 ≤ x239 ∧ x239 < strC0.size then
        k243 (IntKind.wrap .i64 ((0 : Int) + (IntKind.wrap .i64 (byteAt strC0 x239.toNat))))
      else
        none))
def g125 {α : Type} (m : Nat) : Int → (Int → Option α) → Option α :=
  g125b
def g125tp : List TP := [(.vl (.sv (.int .u32)))]
def g125bp : List BP := []
def g125K {α : Type} (G : Int → (Int → Option α) → Option α) (ls : List Lf) (k : TV → List (List Seg) → List (List Seg) → Option α) : Option α :=
  G (lf ls 0).int
    (fun y0 => k (.vl (.sv (.int .i64 y0))) [] [])
def g125hd   : Hd where
  call := fun f args Bs k => none
  loop := fun id st k => none
  ro := fun f => []
def g125h (m : Nat) : Hd := g125hd
theorem g125Main   {α : Type} (ls : List Lf) (k : TV → List (List Seg) → List (List Seg) → Option α) :
    g125K (g125b) ls k = evFun tab (g125hd) Go.Proofs.Try.f125 (fillT g125tp ls).1 (fillB g125bp (fillT g125tp ls).2).1 k := by kernel_rfl
theorem g125Calls (m : Nat) : (g125h m).CallsOk Go.Proofs.Try.prog := cok_nil
theorem g125Fn (m : Nat) : FnOk Go.Proofs.Try.prog 125 g125tp g125bp (fun {α} => g125K (g125 (α := α) m)) :=
  fn_ok (tab := tab) (h := g125h m) (fn := Go.Proofs.Try.f125) (F := fun {α} => g125K (g125 (α := α) m)) tabOk (g125Calls m) mixed (by kernel_rfl) (by kernel_rfl) (fun c hc => by
    rw [bodyOf_some hc]
    exact loopsOk_of _ (fun p hp => by rw [show loopsOf (bodyOf Go.Proofs.Try.f125) = [] by kernel_rfl] at hp; cases hp))
    (fun α ls k => g125Main ls k)
theorem g125Ok (m : Nat) : RowOk Go.Proofs.Try.prog 125 (fun {α} => rowK g125tp g125bp (g125K (g125 (α := α) m))) := row_of (g125Fn m)

/-! ### g107: (impl.size).bits -/
def g107l0b {α : Type} (G_g125 : {α : Type} → Int → (Int → Option α) → Option α)  (a214 : List Int) (k247 : Int → Option α) (k248 : Option α) (r249 : Int → Option α) (v213 : Int) : Option α :=
  cond (decide (v213 ≥ (0 : Int)))
   (
    if 0 ≤ v213 ∧ v213 < (6 : Nat) then
      if v213.toNat < 6 then
        cond ((List.getD a214 v213.toNat 0) != (0 : Int))
        (
        if 0 ≤ v213 ∧ v213 < (6 : Nat) then
        if v213.toNat < 6 then
        G_g125 (List.getD a214 v213.toNat 0)
        (fun x244 =>
        k247 (IntKind.wrap .i64 ((IntKind.wrap .i64 ((32 : Int) * v213)) + x244)))
        else
        none
        else
        none)
        (
        r249 (IntKind.wrap .i64 (v213 - (1 : Int))))
      else
        none
    else
      none)
   (
    k248)
def g107l0 {α : Type} (G_g125 : {α : Type} → Int → (Int → Option α) → Option α)  (a214 : List Int) (k247 : Int → Option α) (k248 : Option α) : Nat → Int → Option α
  | 0 => fun _ => none
  | m + 1 => fun v213 => g107l0b G_g125 a214 k247 k248 (g107l0 G_g125 a214 k247 k248 m) v213
def g107l0M {α : Type} (m : Nat) : (List Int) → (Int → Option α) → (Option α) → Int → Option α :=
  fun a214 k247 k248 v213 => g107l0 (g125 m) a214 k247 k248 m v213
def g107l0D : LoopD := { n := 19, low := [], sl := [1, 3], bl := [1000000], tp := [(.vl (.sv (.ptr 1000000 0))), (.vl (.sv (.int .i64)))], bp := [(true, [(.seq (.int .u32) 6)])], xs := [(1, [2]), (2, [])] }
def g107l0K {α : Type} (L : (List Int) → (Int → Option α) → (Option α) → Int → Option α) (ls : List Lf) (k : Ex → St → Option α) : Option α :=
  L ((lf ls 1).lst (.int .u32))
    (fun y0 => k .ret (mkSt 19 [2] [(.vl (.sv (.int .i64 y0)))] [] []))
    (k .normal (mkSt 19 [] [] [] []))
    (lf ls 0).int
def g107b {α : Type} (G_g125 : {α : Type} → Int → (Int → Option α) → Option α) (L_g107l0 : {α : Type} → (List Int) → (Int → Option α) → (Option α) → Int → Option α) (u212 : List Int) (k251 : Int → Option α) : Option α :=
  L_g107l0 u212
    (fun x250 =>
      k251 x250)
    (
      k251 (0 : Int))
    (5 : Int)
def g107 {α : Type} (m : Nat) : (List Int) → (Int → Option α) → Option α :=
  g107b (g125 m) (g107l0M m)
def g107tp : List TP := [(.vl (.agg [(.seq (.int .u32) 6)]))]
def g107bp : List BP := []
def g107K {α : Type} (G : (List Int) → (Int → Option α) → Option α) (ls : List Lf) (k : TV → List (List Seg) → List (List Seg) → Option α) : Option α :=
  G ((lf ls 0).lst (.int .u32))
    (fun y0 => k (.vl (.sv (.int .i64 y0))) [] [])
def g107hd (G_g125 : {α : Type} → Int → (Int → Option α) → Option α) (L_g107l0 : {α : Type} → (List Int) → (Int → Option α) → (Option α) → Int → Option α) : Hd where
  call := fun f args Bs k => cond (Nat.beq f 125) (rowK g125tp g125bp (g125K G_g125) args Bs k) (none)
  loop := fun id st k => cond (Nat.beq id 0) (loopH g107l0D (g107l0K L_g107l0) st k) (none)
  ro := fun f => []
def g107h (m : Nat) : Hd := g107hd (g125 m) (g107l0M m)
theorem g107l0Step (G_g125 : {α : Type} → Int → (Int → Option α) → Option α) (L_g107l0 : {α : Type} → (List Int) → (Int → Option α) → (Option α) → Int → Option α) {α : Type} (L : (List Int) → (Int → Option α) → (Option α) → Int → Option α) (ls : List Lf) (k : Ex → St → Option α) :
    g107l0K (fun a214 k247 k248 v213 => g107l0b G_g125 a214 k247 k248 (L a214 k247 k248) v213) ls k = ev tab (g107hd G_g125 L_g107l0) (bodyAt Go.Proofs.Try.f107 0) (atHead g107l0D ls) (loopK g107l0D 0 (loopH g107l0D (g107l0K L)) k) := by kernel_rfl
theorem g107Main (G_g125 : {α : Type} → Int → (Int → Option α) → Option α) (L_g107l0 : {α : Type} → (List Int) → (Int → Option α) → (Option α) → Int → Option α) {α : Type} (ls : List Lf) (k : TV → List (List Seg) → List (List Seg) → Option α) :
    g107K (g107b G_g125 L_g107l0) ls k = evFun tab (g107hd G_g125 L_g107l0) Go.Proofs.Try.f107 (fillT g107tp ls).1 (fillB g107bp (fillT g107tp ls).2).1 k := by kernel_rfl
theorem g107Calls (m : Nat) : (g107h m).CallsOk Go.Proofs.Try.prog := (cok_cons (g125Ok m) cok_nil)
theorem g107l0Ok (m : Nat) (α : Type) (st : St) (k : Ex → St → Option α) (r : α) (h : (g107h m).loop 0 st k = some r) :
    ∃ e st', k e st' = some r ∧ CodeS Go.Proofs.Try.prog (.block 0 (.loop (bodyAt Go.Proofs.Try.f107 0))) st e st' :=
  loop_ok (tab := tab) (h := g107h m) (F := fun n ls k => g107l0K (fun a214 k247 k248 v213 => g107l0 (g125 m) a214 k247 k248 n v213) ls k) tabOk (g107Calls m) mixed (loopsOk_of _ (fun p hp => by rw [show loopsOf (bodyAt Go.Proofs.Try.f107 0) = [] by kernel_rfl] at hp; cases hp))
    (fun _ _ => rfl) (fun n ls k => g107l0Step (g125 m) (g107l0M m) (fun a214 k247 k248 => g107l0 (g125 m) a214 k247 k248 n) ls k) (n := m) h
theorem g107Fn (m : Nat) : FnOk Go.Proofs.Try.prog 107 g107tp g107bp (fun {α} => g107K (g107 (α := α) m)) :=
  fn_ok (tab := tab) (h := g107h m) (fn := Go.Proofs.Try.f107) (F := fun {α} => g107K (g107 (α := α) m)) tabOk (g107Calls m) mixed (by kernel_rfl) (by kernel_rfl) (fun c hc => by
    rw [bodyOf_some hc]
    exact loopsOk_of _ (fun p hp => by
    rw [show loopsOf (bodyOf Go.Proofs.Try.f107) = [(0, bodyAt Go.Proofs.Try.f107 0)] by kernel_rfl] at hp
    simp only [List.mem_cons, List.not_mem_nil, or_false] at hp
    rcases hp with rfl
    exact g107l0Ok m))
    (fun α ls k => g107Main (g125 m) (g107l0M m) ls k)
theorem g107Ok (m : Nat) : RowOk Go.Proofs.Try.prog 107 (fun {α} => rowK g107tp g107bp (g107K (g107 (α := α) m))) := row_of (g107Fn m)

/-! ### g122: (impl.size).bySmall -/
def g122l0b {α : Type}   (v259 : Int) (a263 : List Int) (k276 : Int → (List Int) → Option α) (r277 : Int → Int → (List Int) → Option α) (v260 : Int) (v261 : Int) (a262 : List Int) : Option α :=
  cond (decide (v261 ≥ (0 : Int)))
   (
    if 0 ≤ v261 ∧ v261 < (6 : Nat) then
      if v261.toNat < 6 then
        let x268 : Int := ibits .or .u64 (IntKind.wrap .u64 (v260 * 2 ^ 32)) (IntKind.wrap .u64 (List.getD a262 v261.toNat 0))
        let x269 : Int := IntKind.wrap .u64 v259
        if x269 = 0 then
        none
        else
        if 0 ≤ v261 ∧ v261 < (6 : Nat) then
        if v261.toNat < 6 then
        let x273 : Int := IntKind.wrap .u64 v259
        if x273 = 0 then
        none
        else
        r277 (Int.tmod x268 x273) (IntKind.wrap .i64 (v261 - (1 : Int))) (List.set a262 (v261.toNat) (IntKind.wrap .u32 (IntKind.wrap .u64 (Int.tdiv x268 x269))))
        else
        none
        else
        none
      else
        none
    else
      none)
   (
    k276 v260 a262)
def g122l0 {α : Type}   (v259 : Int) (a263 : List Int) (k276 : Int → (List Int) → Option α) : Nat → Int → Int → (List Int) → Option α
  | 0 => fun _ _ _ => none
  | m + 1 => fun v260 v261 a262 => g122l0b v259 a263 k276 (g122l0 v259 a263 k276 m) v260 v261 a262
def g122l0M {α : Type} (m : Nat) : Int → (List Int) → (Int → (List Int) → Option α) → Int → Int → (List Int) → Option α :=
  fun v259 a263 k276 v260 v261 a262 => g122l0 v259 a263 k276 m v260 v261 a262
def g122l0D : LoopD := { n := 33, low := [], sl := [1, 2, 4, 6, 7], bl := [1000000, 1000001], tp := [(.vl (.sv (.int .u32))), (.vl (.sv (.ptr 1000000 0))), (.vl (.sv (.ptr 1000001 0))), (.vl (.sv (.int .u64))), (.vl (.sv (.int .i64)))], bp := [(true, [(.seq (.int .u32) 6)]), (true, [(.seq (.int .u32) 6)])], xs := [(2, [2, 4, 6])] }
def g122l0K {α : Type} (L : Int → (List Int) → (Int → (List Int) → Option α) → Int → Int → (List Int) → Option α) (ls : List Lf) (k : Ex → St → Option α) : Option α :=
  L (lf ls 0).int ((lf ls 4).lst (.int .u32))
    (fun y0 y1 => k .normal (mkSt 33 [2, 4, 6] [(.vl (.sv (.ptr 1000000 0))), (.vl (.sv (.ptr 1000001 0))), (.vl (.sv (.int .u64 y0)))] [1000000, 1000001] [(true, [(.seq (.int .u32) 6 y1)]), (true, [(.seq (.int .u32) 6 ((lf ls 4).lst (.int .u32)))])]))
    (lf ls 1).int (lf ls 2).int ((lf ls 3).lst (.int .u32))
def g122b {α : Type}  (L_g122l0 : {α : Type} → Int → (List Int) → (Int → (List Int) → Option α) → Int → Int → (List Int) → Option α) (u257 : List Int) (p258 : Int) (k281 : (List Int) → Int → Option α) : Option α :=
  L_g122l0 p258 [0, 0, 0, 0, 0, 0]
    (fun x278 l279 =>
      k281 l279 (IntKind.wrap .u32 x278))
    (0 : Int) (5 : Int) u257
def g122 {α : Type} (m : Nat) : (List Int) → Int → ((List Int) → Int → Option α) → Option α :=
  g122b (g122l0M m)
def g122tp : List TP := [(.vl (.agg [(.seq (.int .u32) 6)])), (.vl (.sv (.int .u32)))]
def g122bp : List BP := []
def g122K {α : Type} (G : (List Int) → Int → ((List Int) → Int → Option α) → Option α) (ls : List Lf) (k : TV → List (List Seg) → List (List Seg) → Option α) : Option α :=
  G ((lf ls 0).lst (.int .u32)) (lf ls 1).int
    (fun y0 y1 => k (.tup [(.agg [(.seq (.int .u32) 6 y0)]), (.sv (.int .u32 y1))]) [] [])
def g122hd  (L_g122l0 : {α : Type} → Int → (List Int) → (Int → (List Int) → Option α) → Int → Int → (List Int) → Option α) : Hd where
  call := fun f args Bs k => none
  loop := fun id st k => cond (Nat.beq id 0) (loopH g122l0D (g122l0K L_g122l0) st k) (none)
  ro := fun f => []
def g122h (m : Nat) : Hd := g122hd (g122l0M m)
theorem g122l0Step  (L_g122l0 : {α : Type} → Int → (List Int) → (Int → (List Int) → Option α) → Int → Int → (List Int) → Option α) {α : Type} (L : Int → (List Int) → (Int → (List Int) → Option α) → Int → Int → (List Int) → Option α) (ls : List Lf) (k : Ex → St → Option α) :
    g122l0K (fun v259 a263 k276 v260 v261 a262 => g122l0b v259 a263 k276 (L v259 a263 k276) v260 v261 a262) ls k = ev tab (g122hd L_g122l0) (bodyAt Go.Proofs.Try.f122 0) (atHead g122l0D ls) (loopK g122l0D 0 (loopH g122l0D (g122l0K L)) k) := by kernel_rfl
theorem g122Main  (L_g122l0 : {α : Type} → Int → (List Int) → (Int → (List Int) → Option α) → Int → Int → (List Int) → Option α) {α : Type} (ls : List Lf) (k : TV → List (List Seg) → List (List Seg) → Option α) :
    g122K (g122b L_g122l0) ls k = evFun tab (g122hd L_g122l0) Go.Proofs.Try.f122 (fillT g122tp ls).1 (fillB g122bp (fillT g122tp ls).2).1 k := by kernel_rfl
theorem g122Calls (m : Nat) : (g122h m).CallsOk Go.Proofs.Try.prog := cok_nil
theorem g122l0Ok (m : Nat) (α : Type) (st : St) (k : Ex → St → Option α) (r : α) (h : (g122h m).loop 0 st k = some r) :
    ∃ e st', k e st' = some r ∧ CodeS Go.Proofs.Try.prog (.block 0 (.loop (bodyAt Go.Proofs.Try.f122 0))) st e st' :=
  loop_ok (tab := tab) (h := g122h m) (F := fun n ls k => g122l0K (fun v259 a263 k276 v260 v261 a262 => g122l0 v259 a263 k276 n v260 v261 a262) ls k) tabOk (g122Calls m) mixed (loopsOk_of _ (fun p hp => by rw [show loopsOf (bodyAt Go.Proofs.Try.f122 0) = [] by kernel_rfl] at hp; cases hp))
    (fun _ _ => rfl) (fun n ls k => g122l0Step (g122l0M m) (fun v259 a263 k276 => g122l0 v259 a263 k276 n) ls k) (n := m) h
theorem g122Fn (m : Nat) : FnOk Go.Proofs.Try.prog 122 g122tp g122bp (fun {α} => g122K (g122 (α := α) m)) :=
  fn_ok (tab := tab) (h := g122h m) (fn := Go.Proofs.Try.f122) (F := fun {α} => g122K (g122 (α := α) m)) tabOk (g122Calls m) mixed (by kernel_rfl) (by kernel_rfl) (fun c hc => by
    rw [bodyOf_some hc]
    exact loopsOk_of _ (fun p hp => by
    rw [show loopsOf (bodyOf Go.Proofs.Try.f122) = [(0, bodyAt Go.Proofs.Try.f122 0)] by kernel_rfl] at hp
    simp only [List.mem_cons, List.not_mem_nil, or_false] at hp
    rcases hp with rfl
    exact g122l0Ok m))
    (fun α ls k => g122Main (g122l0M m) ls k)
theorem g122Ok (m : Nat) : RowOk Go.Proofs.Try.prog 122 (fun {α} => rowK g122tp g122bp (g122K (g122 (α := α) m))) := row_of (g122Fn m)

/-! ### g89: (impl.size).compare -/
def g89l0b {α : Type}   (a287 : List Int) (a288 : List Int) (k297 : Int → Option α) (k298 : Option α) (r299 : Int → Option α) (v286 : Int) : Option α :=
  cond (decide (v286 ≥ (0 : Int)))
   (
    if 0 ≤ v286 ∧ v286 < (6 : Nat) then
      if v286.toNat < 6 then
        if 0 ≤ v286 ∧ v286 < (6 : Nat) then
        if v286.toNat < 6 then
        cond ((List.getD a287 v286.toNat 0) != (List.getD a288 v286.toNat 0))
        (
        if 0 ≤ v286 ∧ v286 < (6 : Nat) then
        if v286.toNat < 6 then
        if 0 ≤ v286 ∧ v286 < (6 : Nat) then
        if v286.toNat < 6 then
        cond (decide ((List.getD a287 v286.toNat 0) < (List.getD a288 v286.toNat 0)))
        (
        k297 (-1 : Int))
        (
        k297 (1 : Int))
        else
        none
        else
        none
        else
        none
        else
        none)
        (
        r299 (IntKind.wrap .i64 (v286 - (1 : Int))))
        else
        none
        else
        none
      else
        none
    else
      none)
   (
    k298)
def g89l0 {α : Type}   (a287 : List Int) (a288 : List Int) (k297 : Int → Option α) (k298 : Option α) : Nat → Int → Option α
  | 0 => fun _ => none
  | m + 1 => fun v286 => g89l0b a287 a288 k297 k298 (g89l0 a287 a288 k297 k298 m) v286
def g89l0M {α : Type} (m : Nat) : (List Int) → (List Int) → (Int → Option α) → (Option α) → Int → Option α :=
  fun a287 a288 k297 k298 v286 => g89l0 a287 a288 k297 k298 m v286
def g89l0D : LoopD := { n := 24, low := [], sl := [2, 3, 5], bl := [1000000, 1000001], tp := [(.vl (.sv (.ptr 1000000 0))), (.vl (.sv (.ptr 1000001 0))), (.vl (.sv (.int .i64)))], bp := [(true, [(.seq (.int .u32) 6)]), (true, [(.seq (.int .u32) 6)])], xs := [(1, [4]), (2, [])] }
def g89l0K {α : Type} (L : (List Int) → (List Int) → (Int → Option α) → (Option α) → Int → Option α) (ls : List Lf) (k : Ex → St → Option α) : Option α :=
  L ((lf ls 1).lst (.int .u32)) ((lf ls 2).lst (.int .u32))
    (fun y0 => k .ret (mkSt 24 [4] [(.vl (.sv (.int .i64 y0)))] [] []))
    (k .normal (mkSt 24 [] [] [] []))
    (lf ls 0).int
def g89b {α : Type}  (L_g89l0 : {α : Type} → (List Int) → (List Int) → (Int → Option α) → (Option α) → Int → Option α) (u284 : List Int) (u285 : List Int) (k301 : Int → Option α) : Option α :=
  L_g89l0 u284 u285
    (fun x300 =>
      k301 x300)
    (
      k301 (0 : Int))
    (5 : Int)
def g89 {α : Type} (m : Nat) : (List Int) → (List Int) → (Int → Option α) → Option α :=
  g89b (g89l0M m)
def g89tp : List TP := [(.vl (.agg [(.seq (.int .u32) 6)])), (.vl (.agg [(.seq (.int .u32) 6)]))]
def g89bp : List BP := []
def g89K {α : Type} (G : (List Int) → (List Int) → (Int → Option α) → Option α) (ls : List Lf) (k : TV → List (List Seg) → List (List Seg) → Option α) : Option α :=
  G ((lf ls 0).lst (.int .u32)) ((lf ls 1).lst (.int .u32))
    (fun y0 => k (.vl (.sv (.int .i64 y0))) [] [])
def g89hd  (L_g89l0 : {α : Type} → (List Int) → (List Int) → (Int → Option α) → (Option α) → Int → Option α) : Hd where
  call := fun f args Bs k => none
  loop := fun id st k => cond (Nat.beq id 0) (loopH g89l0D (g89l0K L_g89l0) st k) (none)
  ro := fun f => []
def g89h (m : Nat) : Hd := g89hd (g89l0M m)
theorem g89l0Step  (L_g89l0 : {α : Type} → (List Int) → (List Int) → (Int → Option α) → (Option α) → Int → Option α) {α : Type} (L : (List Int) → (List Int) → (Int → Option α) → (Option α) → Int → Option α) (ls : List Lf) (k : Ex → St → Option α) :
    g89l0K (fun a287 a288 k297 k298 v286 => g89l0b a287 a288 k297 k298 (L a287 a288 k297 k298) v286) ls k = ev tab (g89hd L_g89l0) (bodyAt Go.Proofs.Try.f89 0) (atHead g89l0D ls) (loopK g89l0D 0 (loopH g89l0D (g89l0K L)) k) := by kernel_rfl
theorem g89Main  (L_g89l0 : {α : Type} → (List Int) → (List Int) → (Int → Option α) → (Option α) → Int → Option α) {α : Type} (ls : List Lf) (k : TV → List (List Seg) → List (List Seg) → Option α) :
    g89K (g89b L_g89l0) ls k = evFun tab (g89hd L_g89l0) Go.Proofs.Try.f89 (fillT g89tp ls).1 (fillB g89bp (fillT g89tp ls).2).1 k := by kernel_rfl
theorem g89Calls (m : Nat) : (g89h m).CallsOk Go.Proofs.Try.prog := cok_nil
theorem g89l0Ok (m : Nat) (α : Type) (st : St) (k : Ex → St → Option α) (r : α) (h : (g89h m).loop 0 st k = some r) :
    ∃ e st', k e st' = some r ∧ CodeS Go.Proofs.Try.prog (.block 0 (.loop (bodyAt Go.Proofs.Try.f89 0))) st e st' :=
  loop_ok (tab := tab) (h := g89h m) (F := fun n ls k => g89l0K (fun a287 a288 k297 k298 v286 => g89l0 a287 a288 k297 k298 n v286) ls k) tabOk (g89Calls m) mixed (loopsOk_of _ (fun p hp => by rw [show loopsOf (bodyAt Go.Proofs.Try.f89 0) = [] by kernel_rfl] at hp; cases hp))
    (fun _ _ => rfl) (fun n ls k => g89l0Step (g89l0M m) (fun a287 a288 k297 k298 => g89l0 a287 a288 k297 k298 n) ls k) (n := m) h
theorem g89Fn (m : Nat) : FnOk Go.Proofs.Try.prog 89 g89tp g89bp (fun {α} => g89K (g89 (α := α) m)) :=
  fn_ok (tab := tab) (h := g89h m) (fn := Go.Proofs.Try.f89) (F := fun {α} => g89K (g89 (α := α) m)) tabOk (g89Calls m) mixed (by kernel_rfl) (by kernel_rfl) (fun c hc => by
    rw [bodyOf_some hc]
    exact loopsOk_of _ (fun p hp => by
    rw [show loopsOf (bodyOf Go.Proofs.Try.f89) = [(0, bodyAt Go.Proofs.Try.f89 0)] by kernel_rfl] at hp
    simp only [List.mem_cons, List.not_mem_nil, or_false] at hp
    rcases hp with rfl
    exact g89l0Ok m))
    (fun α ls k => g89Main (g89l0M m) ls k)
theorem g89Ok (m : Nat) : RowOk Go.Proofs.Try.prog 89 (fun {α} => rowK g89tp g89bp (g89K (g89 (α := α) m))) := row_of (g89Fn m)

/-! ### g123: math/bits.LeadingZeros32 -/
def g123b {α : Type} (G_g125 : {α : Type} → Int → (Int → Option α) → Option α)  (p306 : Int) (k309 : Int → Option α) : Option α :=
  G_g125 p306
    (fun x307 =>
      k309 (IntKind.wrap .i64 ((32 : Int) - x307)))
def g123 {α : Type} (m : Nat) : Int → (Int → Option α) → Option α :=
  g123b (g125 m)
def g123tp : List TP := [(.vl (.sv (.int .u32)))]
def g123bp : List BP := []
def g123K {α : Type} (G : Int → (Int → Option α) → Option α) (ls : List Lf) (k : TV → List (List Seg) → List (List Seg) → Option α) : Option α :=
  G (lf ls 0).int
    (fun y0 => k (.vl (.sv (.int .i64 y0))) [] [])
def g123hd (G_g125 : {α : Type} → Int → (Int → Option α) → Option α)  : Hd where
  call := fun f args Bs k => cond (Nat.beq f 125) (rowK g125tp g125bp (g125K G_g125) args Bs k) (none)
  loop := fun id st k => none
  ro := fun f => []
def g123h (m : Nat) : Hd := g123hd (g125 m)
theorem g123Main (G_g125 : {α : Type} → Int → (Int → Option α) → Option α)  {α : Type} (ls : List Lf) (k : TV → List (List Seg) → List (List Seg) → Option α) :
    g123K (g123b G_g125) ls k = evFun tab (g123hd G_g125) Go.Proofs.Try.f123 (fillT g123tp ls).1 (fillB g123bp (fillT g123tp ls).2).1 k := by kernel_rfl
theorem g123Calls (m : Nat) : (g123h m).CallsOk Go.Proofs.Try.prog := (cok_cons (g125Ok m) cok_nil)
theorem g123Fn (m : Nat) : FnOk Go.Proofs.Try.prog 123 g123tp g123bp (fun {α} => g123K (g123 (α := α) m)) :=
  fn_ok (tab := tab) (h := g123h m) (fn := Go.Proofs.Try.f123) (F := fun {α} => g123K (g123 (α := α) m)) tabOk (g123Calls m) mixed (by kernel_rfl) (by kernel_rfl) (fun c hc => by
    rw [bodyOf_some hc]
    exact loopsOk_of _ (fun p hp => by rw [show loopsOf (bodyOf Go.Proofs.Try.f123) = [] by kernel_rfl] at hp; cases hp))
    (fun α ls k => g123Main (g125 m) ls k)
theorem g123Ok (m : Nat) : RowOk Go.Proofs.Try.prog 123 (fun {α} => rowK g123tp g123bp (g123K (g123 (α := α) m))) := row_of (g123Fn m)

/-! ### g108: (impl.size).up -/
def g108l0b {α : Type}   (v315 : Int) (v316 : Int) (a318 : List Int) (a319 : List Int) (k339 : (List Int) → Option α) (r340 : Int → (List Int) → Option α) (v317 : Int) (a320 : List Int) : Option α :=
  cond (decide (v317 ≥ v315))
   (
    let x322 : Int := IntKind.wrap .i64 (v317 - v315)
    if 0 ≤ x322 ∧ x322 < (6 : Nat) then
      if x322.toNat < 6 then
        if v316 < 0 then
        none
        else
        if 0 ≤ v317 ∧ v317 < (6 : Nat) then
        if v317.toNat < 6 then
        let l325 : List Int := List.set a320 (v317.toNat) (IntKind.wrap .u32 ((List.getD a318 x322.toNat 0) * 2 ^ (min v316.toNat 32)))
        cond (decide (v316 > (0 : Int)))
        (
        cond (decide (v317 > v315))
        (
        if 0 ≤ v317 ∧ v317 < (6 : Nat) then
        if v317.toNat < 6 then
        let x330 : Int := IntKind.wrap .i64 ((IntKind.wrap .i64 (v317 - v315)) - (1 : Int))
        if 0 ≤ x330 ∧ x330 < (6 : Nat) then
        if x330.toNat < 6 then
        let x332 : Int := IntKind.wrap .i64 ((32 : Int) - v316)
        if x332 < 0 then
        none
        else
        if 0 ≤ v317 ∧ v317 < (6 : Nat) then
        if v317.toNat < 6 then
        r340 (IntKind.wrap .i64 (v317 - (1 : Int))) (List.set l325 (v317.toNat) (ibits .or .u32 (List.getD l325 v317.toNat 0) (Int.fdiv (List.getD a318 x330.toNat 0) (2 ^ (min x332.toNat 32)))))
        else
        none
        else
        none
        else
        none
        else
        none
        else
        none
        else
        none)
        (
        r340 (IntKind.wrap .i64 (v317 - (1 : Int))) l325))
        (
        r340 (IntKind.wrap .i64 (v317 - (1 : Int))) l325)
        else
        none
        else
        none
      else
        none
    else
      none)
   (
    k339 a320)
def g108l0 {α : Type}   (v315 : Int) (v316 : Int) (a318 : List Int) (a319 : List Int) (k339 : (List Int) → Option α) : Nat → Int → (List Int) → Option α
  | 0 => fun _ _ => none
  | m + 1 => fun v317 a320 => g108l0b v315 v316 a318 a319 k339 (g108l0 v315 v316 a318 a319 k339 m) v317 a320
def g108l0M {α : Type} (m : Nat) : Int → Int → (List Int) → (List Int) → ((List Int) → Option α) → Int → (List Int) → Option α :=
  fun v315 v316 a318 a319 k339 v317 a320 => g108l0 v315 v316 a318 a319 k339 m v317 a320
def g108l0D : LoopD := { n := 50, low := [], sl := [2, 4, 5, 6, 7, 8], bl := [1000000, 1000001, 1000002], tp := [(.vl (.sv (.ptr 1000000 0))), (.vl (.sv (.ptr 1000001 0))), (.vl (.sv (.ptr 1000002 0))), (.vl (.sv (.int .i64))), (.vl (.sv (.int .i64))), (.vl (.sv (.int .i64)))], bp := [(true, [(.seq (.int .u32) 6)]), (true, [(.seq (.int .u32) 6)]), (true, [(.seq (.int .u32) 6)])], xs := [(2, [4, 5])] }
def g108l0K {α : Type} (L : Int → Int → (List Int) → (List Int) → ((List Int) → Option α) → Int → (List Int) → Option α) (ls : List Lf) (k : Ex → St → Option α) : Option α :=
  L (lf ls 0).int (lf ls 1).int ((lf ls 3).lst (.int .u32)) ((lf ls 4).lst (.int .u32))
    (fun y1 => k .normal (mkSt 50 [4, 5] [(.vl (.sv (.ptr 1000000 0))), (.vl (.sv (.ptr 1000001 0)))] [1000000, 1000001] [(true, [(.seq (.int .u32) 6 ((lf ls 4).lst (.int .u32)))]), (true, [(.seq (.int .u32) 6 y1)])]))
    (lf ls 2).int ((lf ls 5).lst (.int .u32))
def g108b {α : Type}  (L_g108l0 : {α : Type} → Int → Int → (List Int) → (List Int) → ((List Int) → Option α) → Int → (List Int) → Option α) (u311 : List Int) (p312 : Int) (k342 : (List Int) → Option α) : Option α :=
  L_g108l0 (IntKind.wrap .i64 (Int.tdiv p312 (32 : Int))) (Int.tmod p312 (32 : Int)) u311 [0, 0, 0, 0, 0, 0]
    (fun l341 =>
      k342 l341)
    (5 : Int) [0, 0, 0, 0, 0, 0]
def g108 {α : Type} (m : Nat) : (List Int) → Int → ((List Int) → Option α) → Option α :=
  g108b (g108l0M m)
def g108tp : List TP := [(.vl (.agg [(.seq (.int .u32) 6)])), (.vl (.sv (.int .i64)))]
def g108bp : List BP := []
def g108K {α : Type} (G : (List Int) → Int → ((List Int) → Option α) → Option α) (ls : List Lf) (k : TV → List (List Seg) → List (List Seg) → Option α) : Option α :=
  G ((lf ls 0).lst (.int .u32)) (lf ls 1).int
    (fun y0 => k (.vl (.agg [(.seq (.int .u32) 6 y0)])) [] [])
def g108hd  (L_g108l0 : {α : Type} → Int → Int → (List Int) → (List Int) → ((List Int) → Option α) → Int → (List Int) → Option α) : Hd where
  call := fun f args Bs k => none
  loop := fun id st k => cond (Nat.beq id 0) (loopH g108l0D (g108l0K L_g108l0) st k) (none)
  ro := fun f => []
def g108h (m : Nat) : Hd := g108hd (g108l0M m)
theorem g108l0Step  (L_g108l0 : {α : Type} → Int → Int → (List Int) → (List Int) → ((List Int) → Option α) → Int → (List Int) → Option α) {α : Type} (L : Int → Int → (List Int) → (List Int) → ((List Int) → Option α) → Int → (List Int) → Option α) (ls : List Lf) (k : Ex → St → Option α) :
    g108l0K (fun v315 v316 a318 a319 k339 v317 a320 => g108l0b v315 v316 a318 a319 k339 (L v315 v316 a318 a319 k339) v317 a320) ls k = ev tab (g108hd L_g108l0) (bodyAt Go.Proofs.Try.f108 0) (atHead g108l0D ls) (loopK g108l0D 0 (loopH g108l0D (g108l0K L)) k) := by kernel_rfl
theorem g108Main  (L_g108l0 : {α : Type} → Int → Int → (List Int) → (List Int) → ((List Int) → Option α) → Int → (List Int) → Option α) {α : Type} (ls : List Lf) (k : TV → List (List Seg) → List (List Seg) → Option α) :
    g108K (g108b L_g108l0) ls k = evFun tab (g108hd L_g108l0) Go.Proofs.Try.f108 (fillT g108tp ls).1 (fillB g108bp (fillT g108tp ls).2).1 k := by kernel_rfl
theorem g108Calls (m : Nat) : (g108h m).CallsOk Go.Proofs.Try.prog := cok_nil
theorem g108l0Ok (m : Nat) (α : Type) (st : St) (k : Ex → St → Option α) (r : α) (h : (g108h m).loop 0 st k = some r) :
    ∃ e st', k e st' = some r ∧ CodeS Go.Proofs.Try.prog (.block 0 (.loop (bodyAt Go.Proofs.Try.f108 0))) st e st' :=
  loop_ok (tab := tab) (h := g108h m) (F := fun n ls k => g108l0K (fun v315 v316 a318 a319 k339 v317 a320 => g108l0 v315 v316 a318 a319 k339 n v317 a320) ls k) tabOk (g108Calls m) mixed (loopsOk_of _ (fun p hp => by rw [show loopsOf (bodyAt Go.Proofs.Try.f108 0) = [] by kernel_rfl] at hp; cases hp))
    (fun _ _ => rfl) (fun n ls k => g108l0Step (g108l0M m) (fun v315 v316 a318 a319 k339 => g108l0 v315 v316 a318 a319 k339 n) ls k) (n := m) h
theorem g108Fn (m : Nat) : FnOk Go.Proofs.Try.prog 108 g108tp g108bp (fun {α} => g108K (g108 (α := α) m)) :=
  fn_ok (tab := tab) (h := g108h m) (fn := Go.Proofs.Try.f108) (F := fun {α} => g108K (g108 (α := α) m)) tabOk (g108Calls m) mixed (by kernel_rfl) (by kernel_rfl) (fun c hc => by
    rw [bodyOf_some hc]
    exact loopsOk_of _ (fun p hp => by
    rw [show loopsOf (bodyOf Go.Proofs.Try.f108) = [(0, bodyAt Go.Proofs.Try.f108 0)] by kernel_rfl] at hp
    simp only [List.mem_cons, List.not_mem_nil, or_false] at hp
    rcases hp with rfl
    exact g108l0Ok m))
    (fun α ls k => g108Main (g108l0M m) ls k)
theorem g108Ok (m : Nat) : RowOk Go.Proofs.Try.prog 108 (fun {α} => rowK g108tp g108bp (g108K (g108 (α := α) m))) := row_of (g108Fn m)

/-! ### g124: impl.divideStep -/
def g124l0b {α : Type}   (m390 : Nat) (m391 : Nat) (m392 : Nat) (m393 : Nat) (m394 : Nat) (m395 : Nat) (v396 : Int) (a399 : List Int) (a400 : List Int) (k427 : Int → Option α) (r428 : Int → Int → Option α) (v397 : Int) (v398 : Int) : Option α :=
  cond ((Int.fdiv v397 (2 ^ 32)) != (0 : Int))
   (
    let x403 : Int := IntKind.wrap .u64 (v397 - (1 : Int))
    let x404 : Int := IntKind.wrap .i64 (v396 - (1 : Int))
    if 0 ≤ x404 ∧ x404 < (m394 : Nat) then
      if (m393 + x404.toNat) < 6 then
        let x407 : Int := IntKind.wrap .u64 (v398 + (IntKind.wrap .u64 (List.getD a400 (m393 + x404.toNat) 0)))
        cond ((Int.fdiv x407 (2 ^ 32)) != (0 : Int))
        (
        k427 x403)
        (
        r428 x403 x407)
      else
        none
    else
      none)
   (
    let x410 : Int := IntKind.wrap .i64 (v396 - (2 : Int))
    if 0 ≤ x410 ∧ x410 < (m394 : Nat) then
      if (m393 + x410.toNat) < 6 then
        let x415 : Int := IntKind.wrap .i64 (v396 - (2 : Int))
        if 0 ≤ x415 ∧ x415 < (m391 : Nat) then
        if (m390 + x415.toNat) < 7 then
        cond (decide ((IntKind.wrap .u64 (v397 * (IntKind.wrap .u64 (List.getD a400 (m393 + x410.toNat) 0)))) > (ibits .or .u64 (IntKind.wrap .u64 (v398 * 2 ^ 32)) (IntKind.wrap .u64 (List.getD a399 (m390 + x415.toNat) 0)))))
        (
        let x420 : Int := IntKind.wrap .u64 (v397 - (1 : Int))
        let x421 : Int := IntKind.wrap .i64 (v396 - (1 : Int))
        if 0 ≤ x421 ∧ x421 < (m394 : Nat) then
        if (m393 + x421.toNat) < 6 then
        let x424 : Int := IntKind.wrap .u64 (v398 + (IntKind.wrap .u64 (List.getD a400 (m393 + x421.toNat) 0)))
        cond ((Int.fdiv x424 (2 ^ 32)) != (0 : Int))
        (
        k427 x420)
        (
        r428 x420 x424)
        else
        none
        else
        none)
        (
        k427 v397)
        else
        none
        else
        none
      else
        none
    else
      none)
def g124l0 {α : Type}   (m390 : Nat) (m391 : Nat) (m392 : Nat) (m393 : Nat) (m394 : Nat) (m395 : Nat) (v396 : Int) (a399 : List Int) (a400 : List Int) (k427 : Int → Option α) : Nat → Int → Int → Option α
  | 0 => fun _ _ => none
  | m + 1 => fun v397 v398 => g124l0b m390 m391 m392 m393 m394 m395 v396 a399 a400 k427 (g124l0 m390 m391 m392 m393 m394 m395 v396 a399 a400 k427 m) v397 v398
def g124l0M {α : Type} (m : Nat) : Nat → Nat → Nat → Nat → Nat → Nat → Int → (List Int) → (List Int) → (Int → Option α) → Int → Int → Option α :=
  fun m390 m391 m392 m393 m394 m395 v396 a399 a400 k427 v397 v398 => g124l0 m390 m391 m392 m393 m394 m395 v396 a399 a400 k427 m v397 v398
def g124l0D : LoopD := { n := 170, low := [0, 1], sl := [0, 1, 5, 7, 8], bl := [0, 1], tp := [(.vl (.sv (.slc 0 0 1))), (.vl (.sv (.slc 1 0 1))), (.vl (.sv (.int .i64))), (.vl (.sv (.int .u64))), (.vl (.sv (.int .u64)))], bp := [(true, [(.seq (.int .u32) 7)]), (false, [(.seq (.int .u32) 6)])], xs := [(2, [0, 1, 5, 7])] }
def g124l0K {α : Type} (L : Nat → Nat → Nat → Nat → Nat → Nat → Int → (List Int) → (List Int) → (Int → Option α) → Int → Int → Option α) (ls : List Lf) (k : Ex → St → Option α) : Option α :=
  L (lf ls 0).nat (lf ls 1).nat (lf ls 2).nat (lf ls 3).nat (lf ls 4).nat (lf ls 5).nat (lf ls 6).int ((lf ls 9).lst (.int .u32)) ((lf ls 10).lst (.int .u32))
    (fun y7 => k .normal (mkSt 170 [0, 1, 5, 7] [(.vl (.sv (.slc 0 0 1 (lf ls 0).nat (lf ls 1).nat (lf ls 2).nat))), (.vl (.sv (.slc 1 0 1 (lf ls 3).nat (lf ls 4).nat (lf ls 5).nat))), (.vl (.sv (.int .i64 (lf ls 6).int))), (.vl (.sv (.int .u64 y7)))] [0, 1] [(true, [(.seq (.int .u32) 7 ((lf ls 9).lst (.int .u32)))]), (false, [(.seq (.int .u32) 6 ((lf ls 10).lst (.int .u32)))])]))
    (lf ls 7).int (lf ls 8).int
def g124l2b {α : Type}   (m430 : Nat) (m431 : Nat) (m432 : Nat) (m433 : Nat) (m434 : Nat) (m435 : Nat) (v436 : Int) (v437 : Int) (v440 : Int) (a443 : List Int) (k459 : Int → Int → (List Int) → Option α) (r460 : Int → Int → Int → (List Int) → Option α) (v438 : Int) (v439 : Int) (v441 : Int) (a442 : List Int) : Option α :=
  cond (decide (v441 < v440))
   (
    if 0 ≤ v441 ∧ v441 < (m434 : Nat) then
      if (m433 + v441.toNat) < 6 then
        let x448 : Int := IntKind.wrap .u64 (v439 + (IntKind.wrap .u64 (v437 * (IntKind.wrap .u64 (List.getD a443 (m433 + v441.toNat) 0)))))
        if 0 ≤ v441 ∧ v441 < (m431 : Nat) then
        if (m430 + v441.toNat) < 7 then
        let x453 : Int := IntKind.wrap .u64 ((IntKind.wrap .u64 ((IntKind.wrap .u64 (List.getD a442 (m430 + v441.toNat) 0)) - (ibits .and .u64 x448 (4294967295 : Int)))) - v438)
        if 0 ≤ v441 ∧ v441 < (m431 : Nat) then
        if (m430 + v441.toNat) < 7 then
        r460 (Int.fdiv x453 (2 ^ 63)) (Int.fdiv x448 (2 ^ 32)) (IntKind.wrap .i64 (v441 + (1 : Int))) (List.set a442 (m430 + v441.toNat) (IntKind.wrap .u32 x453))
        else
        none
        else
        none
        else
        none
        else
        none
      else
        none
    else
      none)
   (
    k459 v438 v439 a442)
def g124l2 {α : Type}   (m430 : Nat) (m431 : Nat) (m432 : Nat) (m433 : Nat) (m434 : Nat) (m435 : Nat) (v436 : Int) (v437 : Int) (v440 : Int) (a443 : List Int) (k459 : Int → Int → (List Int) → Option α) : Nat → Int → Int → Int → (List Int) → Option α
  | 0 => fun _ _ _ _ => none
  | m + 1 => fun v438 v439 v441 a442 => g124l2b m430 m431 m432 m433 m434 m435 v436 v437 v440 a443 k459 (g124l2 m430 m431 m432 m433 m434 m435 v436 v437 v440 a443 k459 m) v438 v439 v441 a442
def g124l2M {α : Type} (m : Nat) : Nat → Nat → Nat → Nat → Nat → Nat → Int → Int → Int → (List Int) → (Int → Int → (List Int) → Option α) → Int → Int → Int → (List Int) → Option α :=
  fun m430 m431 m432 m433 m434 m435 v436 v437 v440 a443 k459 v438 v439 v441 a442 => g124l2 m430 m431 m432 m433 m434 m435 v436 v437 v440 a443 k459 m v438 v439 v441 a442
def g124l2D : LoopD := { n := 170, low := [0, 1], sl := [0, 1, 5, 7, 9, 10, 82, 83], bl := [0, 1], tp := [(.vl (.sv (.slc 0 0 1))), (.vl (.sv (.slc 1 0 1))), (.vl (.sv (.int .i64))), (.vl (.sv (.int .u64))), (.vl (.sv (.int .u64))), (.vl (.sv (.int .u64))), (.vl (.sv (.int .i64))), (.vl (.sv (.int .i64)))], bp := [(true, [(.seq (.int .u32) 7)]), (false, [(.seq (.int .u32) 6)])], xs := [(4, [0, 1, 5, 7, 9, 10])] }
def g124l2K {α : Type} (L : Nat → Nat → Nat → Nat → Nat → Nat → Int → Int → Int → (List Int) → (Int → Int → (List Int) → Option α) → Int → Int → Int → (List Int) → Option α) (ls : List Lf) (k : Ex → St → Option α) : Option α :=
  L (lf ls 0).nat (lf ls 1).nat (lf ls 2).nat (lf ls 3).nat (lf ls 4).nat (lf ls 5).nat (lf ls 6).int (lf ls 7).int (lf ls 10).int ((lf ls 13).lst (.int .u32))
    (fun y8 y9 y10 => k .normal (mkSt 170 [0, 1, 5, 7, 9, 10] [(.vl (.sv (.slc 0 0 1 (lf ls 0).nat (lf ls 1).nat (lf ls 2).nat))), (.vl (.sv (.slc 1 0 1 (lf ls 3).nat (lf ls 4).nat (lf ls 5).nat))), (.vl (.sv (.int .i64 (lf ls 6).int))), (.vl (.sv (.int .u64 (lf ls 7).int))), (.vl (.sv (.int .u64 y8))), (.vl (.sv (.int .u64 y9)))] [0, 1] [(true, [(.seq (.int .u32) 7 y10)]), (false, [(.seq (.int .u32) 6 ((lf ls 13).lst (.int .u32)))])]))
    (lf ls 8).int (lf ls 9).int (lf ls 11).int ((lf ls 12).lst (.int .u32))
def g124l4b {α : Type}   (m473 : Nat) (m474 : Nat) (m475 : Nat) (m476 : Nat) (m477 : Nat) (m478 : Nat) (v479 : Int) (v480 : Int) (v482 : Int) (a485 : List Int) (k497 : Int → (List Int) → Option α) (r498 : Int → Int → (List Int) → Option α) (v481 : Int) (v483 : Int) (a484 : List Int) : Option α :=
  cond (decide (v483 < v482))
   (
    if 0 ≤ v483 ∧ v483 < (m474 : Nat) then
      if (m473 + v483.toNat) < 7 then
        if 0 ≤ v483 ∧ v483 < (m477 : Nat) then
        if (m476 + v483.toNat) < 6 then
        let x492 : Int := IntKind.wrap .u64 (v481 + (IntKind.wrap .u64 ((IntKind.wrap .u64 (List.getD a484 (m473 + v483.toNat) 0)) + (IntKind.wrap .u64 (List.getD a485 (m476 + v483.toNat) 0)))))
        if 0 ≤ v483 ∧ v483 < (m474 : Nat) then
        if (m473 + v483.toNat) < 7 then
        r498 (Int.fdiv x492 (2 ^ 32)) (IntKind.wrap .i64 (v483 + (1 : Int))) (List.set a484 (m473 + v483.toNat) (IntKind.wrap .u32 x492))
        else
        none
        else
        none
        else
        none
        else
        none
      else
        none
    else
      none)
   (
    k497 v481 a484)
def g124l4 {α : Type}   (m473 : Nat) (m474 : Nat) (m475 : Nat) (m476 : Nat) (m477 : Nat) (m478 : Nat) (v479 : Int) (v480 : Int) (v482 : Int) (a485 : List Int) (k497 : Int → (List Int) → Option α) : Nat → Int → Int → (List Int) → Option α
  | 0 => fun _ _ _ => none
  | m + 1 => fun v481 v483 a484 => g124l4b m473 m474 m475 m476 m477 m478 v479 v480 v482 a485 k497 (g124l4 m473 m474 m475 m476 m477 m478 v479 v480 v482 a485 k497 m) v481 v483 a484
def g124l4M {α : Type} (m : Nat) : Nat → Nat → Nat → Nat → Nat → Nat → Int → Int → Int → (List Int) → (Int → (List Int) → Option α) → Int → Int → (List Int) → Option α :=
  fun m473 m474 m475 m476 m477 m478 v479 v480 v482 a485 k497 v481 v483 a484 => g124l4 m473 m474 m475 m476 m477 m478 v479 v480 v482 a485 k497 m v481 v483 a484
def g124l4D : LoopD := { n := 170, low := [0, 1], sl := [0, 1, 5, 7, 10, 134, 135], bl := [0, 1], tp := [(.vl (.sv (.slc 0 0 1))), (.vl (.sv (.slc 1 0 1))), (.vl (.sv (.int .i64))), (.vl (.sv (.int .u64))), (.vl (.sv (.int .u64))), (.vl (.sv (.int .i64))), (.vl (.sv (.int .i64)))], bp := [(true, [(.seq (.int .u32) 7)]), (false, [(.seq (.int .u32) 6)])], xs := [(6, [0, 5, 7, 10])] }
def g124l4K {α : Type} (L : Nat → Nat → Nat → Nat → Nat → Nat → Int → Int → Int → (List Int) → (Int → (List Int) → Option α) → Int → Int → (List Int) → Option α) (ls : List Lf) (k : Ex → St → Option α) : Option α :=
  L (lf ls 0).nat (lf ls 1).nat (lf ls 2).nat (lf ls 3).nat (lf ls 4).nat (lf ls 5).nat (lf ls 6).int (lf ls 7).int (lf ls 9).int ((lf ls 12).lst (.int .u32))
    (fun y5 y6 => k .normal (mkSt 170 [0, 5, 7, 10] [(.vl (.sv (.slc 0 0 1 (lf ls 0).nat (lf ls 1).nat (lf ls 2).nat))), (.vl (.sv (.int .i64 (lf ls 6).int))), (.vl (.sv (.int .u64 (lf ls 7).int))), (.vl (.sv (.int .u64 y5)))] [0, 1] [(true, [(.seq (.int .u32) 7 y6)]), (false, [(.seq (.int .u32) 6 ((lf ls 12).lst (.int .u32)))])]))
    (lf ls 8).int (lf ls 10).int ((lf ls 11).lst (.int .u32))
def g124b {α : Type}  (L_g124l0 : {α : Type} → Nat → Nat → Nat → Nat → Nat → Nat → Int → (List Int) → (List Int) → (Int → Option α) → Int → Int → Option α) (L_g124l2 : {α : Type} → Nat → Nat → Nat → Nat → Nat → Nat → Int → Int → Int → (List Int) → (Int → Int → (List Int) → Option α) → Int → Int → Int → (List Int) → Option α) (L_g124l4 : {α : Type} → Nat → Nat → Nat → Nat → Nat → Nat → Int → Int → Int → (List Int) → (Int → (List Int) → Option α) → Int → Int → (List Int) → Option α) (m367 : Nat) (m368 : Nat) (m369 : Nat) (m370 : Nat) (m371 : Nat) (m372 : Nat) (u373 : List Int) (u374 : List Int) (k507 : Int → (List Int) → Option α) : Option α :=
  if 0 ≤ ((m371 : Nat) : Int) ∧ ((m371 : Nat) : Int) < (m368 : Nat) then
    if (m367 + ((m371 : Nat) : Int).toNat) < 7 then
      let x378 : Int := IntKind.wrap .i64 (((m371 : Nat) : Int) - (1 : Int))
      if 0 ≤ x378 ∧ x378 < (m368 : Nat) then
        if (m367 + x378.toNat) < 7 then
        let x381 : Int := ibits .or .u64 (IntKind.wrap .u64 ((IntKind.wrap .u64 (List.getD u373 (m367 + ((m371 : Nat) : Int).toNat) 0)) * 2 ^ 32)) (IntKind.wrap .u64 (List.getD u373 (m367 + x378.toNat) 0))
        let x382 : Int := IntKind.wrap .i64 (((m371 : Nat) : Int) - (1 : Int))
        if 0 ≤ x382 ∧ x382 < (m371 : Nat) then
        if (m370 + x382.toNat) < 6 then
        let x384 : Int := IntKind.wrap .u64 (List.getD u374 (m370 + x382.toNat) 0)
        if x384 = 0 then
        none
        else
        let x386 : Int := IntKind.wrap .i64 (((m371 : Nat) : Int) - (1 : Int))
        if 0 ≤ x386 ∧ x386 < (m371 : Nat) then
        if (m370 + x386.toNat) < 6 then
        let x388 : Int := IntKind.wrap .u64 (List.getD u374 (m370 + x386.toNat) 0)
        if x388 = 0 then
        none
        else
        L_g124l0 m367 m368 m369 m370 m371 m372 ((m371 : Nat) : Int) u373 u374
        (fun x429 =>
        L_g124l2 m367 m368 m369 m370 m371 m372 ((m371 : Nat) : Int) x429 ((m371 : Nat) : Int) u374
        (fun x461 x462 l463 =>
        if 0 ≤ ((m371 : Nat) : Int) ∧ ((m371 : Nat) : Int) < (m368 : Nat) then
        if (m367 + ((m371 : Nat) : Int).toNat) < 7 then
        let x467 : Int := IntKind.wrap .u64 ((IntKind.wrap .u64 ((IntKind.wrap .u64 (List.getD l463 (m367 + ((m371 : Nat) : Int).toNat) 0)) - x462)) - x461)
        if 0 ≤ ((m371 : Nat) : Int) ∧ ((m371 : Nat) : Int) < (m368 : Nat) then
        if (m367 + ((m371 : Nat) : Int).toNat) < 7 then
        let l469 : List Int := List.set l463 (m367 + ((m371 : Nat) : Int).toNat) (IntKind.wrap .u32 x467)
        cond ((Int.fdiv x467 (2 ^ 63)) == (0 : Int))
        (
        k507 (IntKind.wrap .u32 x429) l469)
        (
        L_g124l4 m367 m368 m369 m370 m371 m372 ((m371 : Nat) : Int) x429 ((m371 : Nat) : Int) u374
        (fun x499 l500 =>
        if 0 ≤ ((m371 : Nat) : Int) ∧ ((m371 : Nat) : Int) < (m368 : Nat) then
        if (m367 + ((m371 : Nat) : Int).toNat) < 7 then
        if 0 ≤ ((m371 : Nat) : Int) ∧ ((m371 : Nat) : Int) < (m368 : Nat) then
        if (m367 + ((m371 : Nat) : Int).toNat) < 7 then
        k507 (IntKind.wrap .u32 (IntKind.wrap .u64 (x429 - (1 : Int)))) (List.set l500 (m367 + ((m371 : Nat) : Int).toNat) (IntKind.wrap .u32 ((List.getD l500 (m367 + ((m371 : Nat) : Int).toNat) 0) + (IntKind.wrap .u32 x499))))
        else
        none
        else
        none
        else
        none
        else
        none)
        (0 : Int) (0 : Int) l469)
        else
        none
        else
        none
        else
        none
        else
        none)
        (0 : Int) (0 : Int) (0 : Int) u373)
        (IntKind.wrap .u64 (Int.tdiv x381 x384)) (Int.tmod x381 x388)
        else
        none
        else
        none
        else
        none
        else
        none
        else
        none
      else
        none
    else
      none
  else
    none
def g124 {α : Type} (m : Nat) : Nat → Nat → Nat → Nat → Nat → Nat → (List Int) → (List Int) → (Int → (List Int) → Option α) → Option α :=
  g124b (g124l0M m) (g124l2M m) (g124l4M m)
def g124tp : List TP := [(.vl (.sv (.slc 0 0 1))), (.vl (.sv (.slc 1 0 1)))]
def g124bp : List BP := [(true, [(.seq (.int .u32) 7)]), (false, [(.seq (.int .u32) 6)])]
def g124K {α : Type} (G : Nat → Nat → Nat → Nat → Nat → Nat → (List Int) → (List Int) → (Int → (List Int) → Option α) → Option α) (ls : List Lf) (k : TV → List (List Seg) → List (List Seg) → Option α) : Option α :=
  G (lf ls 0).nat (lf ls 1).nat (lf ls 2).nat (lf ls 3).nat (lf ls 4).nat (lf ls 5).nat ((lf ls 6).lst (.int .u32)) ((lf ls 7).lst (.int .u32))
    (fun y0 y1 => k (.vl (.sv (.int .u32 y0))) [[(.seq (.int .u32) 7 y1)], [(.seq (.int .u32) 6 ((lf ls 7).lst (.int .u32)))]] [])
def g124hd  (L_g124l0 : {α : Type} → Nat → Nat → Nat → Nat → Nat → Nat → Int → (List Int) → (List Int) → (Int → Option α) → Int → Int → Option α) (L_g124l2 : {α : Type} → Nat → Nat → Nat → Nat → Nat → Nat → Int → Int → Int → (List Int) → (Int → Int → (List Int) → Option α) → Int → Int → Int → (List Int) → Option α) (L_g124l4 : {α : Type} → Nat → Nat → Nat → Nat → Nat → Nat → Int → Int → Int → (List Int) → (Int → (List Int) → Option α) → Int → Int → (List Int) → Option α) : Hd where
  call := fun f args Bs k => none
  loop := fun id st k => cond (Nat.beq id 0) (loopH g124l0D (g124l0K L_g124l0) st k) (cond (Nat.beq id 2) (loopH g124l2D (g124l2K L_g124l2) st k) (cond (Nat.beq id 4) (loopH g124l4D (g124l4K L_g124l4) st k) (none)))
  ro := fun f => []
def g124h (m : Nat) : Hd := g124hd (g124l0M m) (g124l2M m) (g124l4M m)
theorem g124l0Step  (L_g124l0 : {α : Type} → Nat → Nat → Nat → Nat → Nat → Nat → Int → (List Int) → (List Int) → (Int → Option α) → Int → Int → Option α) (L_g124l2 : {α : Type} → Nat → Nat → Nat → Nat → Nat → Nat → Int → Int → Int → (List Int) → (Int → Int → (List Int) → Option α) → Int → Int → Int → (List Int) → Option α) (L_g124l4 : {α : Type} → Nat → Nat → Nat → Nat → Nat → Nat → Int → Int → Int → (List Int) → (Int → (List Int) → Option α) → Int → Int → (List Int) → Option α) {α : Type} (L : Nat → Nat → Nat → Nat → Nat → Nat → Int → (List Int) → (List Int) → (Int → Option α) → Int → Int → Option α) (ls : List Lf) (k : Ex → St → Option α) :
    g124l0K (fun m390 m391 m392 m393 m394 m395 v396 a399 a400 k427 v397 v398 => g124l0b m390 m391 m392 m393 m394 m395 v396 a399 a400 k427 (L m390 m391 m392 m393 m394 m395 v396 a399 a400 k427) v397 v398) ls k = ev tab (g124hd L_g124l0 L_g124l2 L_g124l4) (bodyAt Go.Proofs.Try.f124 0) (atHead g124l0D ls) (loopK g124l0D 0 (loopH g124l0D (g124l0K L)) k) := by kernel_rfl
theorem g124l2Step  (L_g124l0 : {α : Type} → Nat → Nat → Nat → Nat → Nat → Nat → Int → (List Int) → (List Int) → (Int → Option α) → Int → Int → Option α) (L_g124l2 : {α : Type} → Nat → Nat → Nat → Nat → Nat → Nat → Int → Int → Int → (List Int) → (Int → Int → (List Int) → Option α) → Int → Int → Int → (List Int) → Option α) (L_g124l4 : {α : Type} → Nat → Nat → Nat → Nat → Nat → Nat → Int → Int → Int → (List Int) → (Int → (List Int) → Option α) → Int → Int → (List Int) → Option α) {α : Type} (L : Nat → Nat → Nat → Nat → Nat → Nat → Int → Int → Int → (List Int) → (Int → Int → (List Int) → Option α) → Int → Int → Int → (List Int) → Option α) (ls : List Lf) (k : Ex → St → Option α) :
    g124l2K (fun m430 m431 m432 m433 m434 m435 v436 v437 v440 a443 k459 v438 v439 v441 a442 => g124l2b m430 m431 m432 m433 m434 m435 v436 v437 v440 a443 k459 (L m430 m431 m432 m433 m434 m435 v436 v437 v440 a443 k459) v438 v439 v441 a442) ls k = ev tab (g124hd L_g124l0 L_g124l2 L_g124l4) (bodyAt Go.Proofs.Try.f124 2) (atHead g124l2D ls) (loopK g124l2D 2 (loopH g124l2D (g124l2K L)) k) := by kernel_rfl
theorem g124l4Step  (L_g124l0 : {α : Type} → Nat → Nat → Nat → Nat → Nat → Nat → Int → (List Int) → (List Int) → (Int → Option α) → Int → Int → Option α) (L_g124l2 : {α : Type} → Nat → Nat → Nat → Nat → Nat → Nat → Int → Int → Int → (List Int) → (Int → Int → (List Int) → Option α) → Int → Int → Int → (List Int) → Option α) (L_g124l4 : {α : Type} → Nat → Nat → Nat → Nat → Nat → Nat → Int → Int → Int → (List Int) → (Int → (List Int) → Option α) → Int → Int → (List Int) → Option α) {α : Type} (L : Nat → Nat → Nat → Nat → Nat → Nat → Int → Int → Int → (List Int) → (Int → (List Int) → Option α) → Int → Int → (List Int) → Option α) (ls : List Lf) (k : Ex → St → Option α) :
    g124l4K (fun m473 m474 m475 m476 m477 m478 v479 v480 v482 a485 k497 v481 v483 a484 => g124l4b m473 m474 m475 m476 m477 m478 v479 v480 v482 a485 k497 (L m473 m474 m475 m476 m477 m478 v479 v480 v482 a485 k497) v481 v483 a484) ls k = ev tab (g124hd L_g124l0 L_g124l2 L_g124l4) (bodyAt Go.Proofs.Try.f124 4) (atHead g124l4D ls) (loopK g124l4D 4 (loopH g124l4D (g124l4K L)) k) := by kernel_rfl
theorem g124Main  (L_g124l0 : {α : Type} → Nat → Nat → Nat → Nat → Nat → Nat → Int → (List Int) → (List Int) → (Int → Option α) → Int → Int → Option α) (L_g124l2 : {α : Type} → Nat → Nat → Nat → Nat → Nat → Nat → Int → Int → Int → (List Int) → (Int → Int → (List Int) → Option α) → Int → Int → Int → (List Int) → Option α) (L_g124l4 : {α : Type} → Nat → Nat → Nat → Nat → Nat → Nat → Int → Int → Int → (List Int) → (Int → (List Int) → Option α) → Int → Int → (List Int) → Option α) {α : Type} (ls : List Lf) (k : TV → List (List Seg) → List (List Seg) → Option α) :
    g124K (g124b L_g124l0 L_g124l2 L_g124l4) ls k = evFun tab (g124hd L_g124l0 L_g124l2 L_g124l4) Go.Proofs.Try.f124 (fillT g124tp ls).1 (fillB g124bp (fillT g124tp ls).2).1 k := by kernel_rfl
theorem g124Calls (m : Nat) : (g124h m).CallsOk Go.Proofs.Try.prog := cok_nil
theorem g124l0Ok (m : Nat) (α : Type) (st : St) (k : Ex → St → Option α) (r : α) (h : (g124h m).loop 0 st k = some r) :
    ∃ e st', k e st' = some r ∧ CodeS Go.Proofs.Try.prog (.block 0 (.loop (bodyAt Go.Proofs.Try.f124 0))) st e st' :=
  loop_ok (tab := tab) (h := g124h m) (F := fun n ls k => g124l0K (fun m390 m391 m392 m393 m394 m395 v396 a399 a400 k427 v397 v398 => g124l0 m390 m391 m392 m393 m394 m395 v396 a399 a400 k427 n v397 v398) ls k) tabOk (g124Calls m) mixed (loopsOk_of _ (fun p hp => by rw [show loopsOf (bodyAt Go.Proofs.Try.f124 0) = [] by kernel_rfl] at hp; cases hp))
    (fun _ _ => rfl) (fun n ls k => g124l0Step (g124l0M m) (g124l2M m) (g124l4M m) (fun m390 m391 m392 m393 m394 m395 v396 a399 a400 k427 => g124l0 m390 m391 m392 m393 m394 m395 v396 a399 a400 k427 n) ls k) (n := m) h
theorem g124l2Ok (m : Nat) (α : Type) (st : St) (k : Ex → St → Option α) (r : α) (h : (g124h m).loop 2 st k = some r) :
    ∃ e st', k e st' = some r ∧ CodeS Go.Proofs.Try.prog (.block 2 (.loop (bodyAt Go.Proofs.Try.f124 2))) st e st' :=
  loop_ok (tab := tab) (h := g124h m) (F := fun n ls k => g124l2K (fun m430 m431 m432 m433 m434 m435 v436 v437 v440 a443 k459 v438 v439 v441 a442 => g124l2 m430 m431 m432 m433 m434 m435 v436 v437 v440 a443 k459 n v438 v439 v441 a442) ls k) tabOk (g124Calls m) mixed (loopsOk_of _ (fun p hp => by rw [show loopsOf (bodyAt Go.Proofs.Try.f124 2) = [] by kernel_rfl] at hp; cases hp))
    (fun _ _ => rfl) (fun n ls k => g124l2Step (g124l0M m) (g124l2M m) (g124l4M m) (fun m430 m431 m432 m433 m434 m435 v436 v437 v440 a443 k459 => g124l2 m430 m431 m432 m433 m434 m435 v436 v437 v440 a443 k459 n) ls k) (n := m) h
theorem g124l4Ok (m : Nat) (α : Type) (st : St) (k : Ex → St → Option α) (r : α) (h : (g124h m).loop 4 st k = some r) :
    ∃ e st', k e st' = some r ∧ CodeS Go.Proofs.Try.prog (.block 4 (.loop (bodyAt Go.Proofs.Try.f124 4))) st e st' :=
  loop_ok (tab := tab) (h := g124h m) (F := fun n ls k => g124l4K (fun m473 m474 m475 m476 m477 m478 v479 v480 v482 a485 k497 v481 v483 a484 => g124l4 m473 m474 m475 m476 m477 m478 v479 v480 v482 a485 k497 n v481 v483 a484) ls k) tabOk (g124Calls m) mixed (loopsOk_of _ (fun p hp => by rw [show loopsOf (bodyAt Go.Proofs.Try.f124 4) = [] by kernel_rfl] at hp; cases hp))
    (fun _ _ => rfl) (fun n ls k => g124l4Step (g124l0M m) (g124l2M m) (g124l4M m) (fun m473 m474 m475 m476 m477 m478 v479 v480 v482 a485 k497 => g124l4 m473 m474 m475 m476 m477 m478 v479 v480 v482 a485 k497 n) ls k) (n := m) h
theorem g124Fn (m : Nat) : FnOk Go.Proofs.Try.prog 124 g124tp g124bp (fun {α} => g124K (g124 (α := α) m)) :=
  fn_ok (tab := tab) (h := g124h m) (fn := Go.Proofs.Try.f124) (F := fun {α} => g124K (g124 (α := α) m)) tabOk (g124Calls m) mixed (by kernel_rfl) (by kernel_rfl) (fun c hc => by
    rw [bodyOf_some hc]
    exact loopsOk_of _ (fun p hp => by
    rw [show loopsOf (bodyOf Go.Proofs.Try.f124) = [(0, bodyAt Go.Proofs.Try.f124 0), (2, bodyAt Go.Proofs.Try.f124 2), (4, bodyAt Go.Proofs.Try.f124 4)] by kernel_rfl] at hp
    simp only [List.mem_cons, List.not_mem_nil, or_false] at hp
    rcases hp with rfl | rfl | rfl
    · exact g124l0Ok m
    · exact g124l2Ok m
    · exact g124l4Ok m))
    (fun α ls k => g124Main (g124l0M m) (g124l2M m) (g124l4M m) ls k)
theorem g124Ok (m : Nat) : RowOk Go.Proofs.Try.prog 124 (fun {α} => rowK g124tp g124bp (g124K (g124 (α := α) m))) := row_of (g124Fn m)

/-! ### g109: (impl.size).down -/
def g109l0b {α : Type}   (v521 : Int) (v522 : Int) (a524 : List Int) (a525 : List Int) (k548 : (List Int) → Option α) (r549 : Int → (List Int) → Option α) (v523 : Int) (a526 : List Int) : Option α :=
  cond (decide ((IntKind.wrap .i64 (v523 + v521)) < (6 : Int)))
   (
    let x529 : Int := IntKind.wrap .i64 (v523 + v521)
    if 0 ≤ x529 ∧ x529 < (6 : Nat) then
      if x529.toNat < 6 then
        if v522 < 0 then
        none
        else
        if 0 ≤ v523 ∧ v523 < (6 : Nat) then
        if v523.toNat < 6 then
        let l532 : List Int := List.set a526 (v523.toNat) (Int.fdiv (List.getD a524 x529.toNat 0) (2 ^ (min v522.toNat 32)))
        cond (decide (v522 > (0 : Int)))
        (
        cond (decide ((IntKind.wrap .i64 ((IntKind.wrap .i64 (v523 + v521)) + (1 : Int))) < (6 : Int)))
        (
        if 0 ≤ v523 ∧ v523 < (6 : Nat) then
        if v523.toNat < 6 then
        let x539 : Int := IntKind.wrap .i64 ((IntKind.wrap .i64 (v523 + v521)) + (1 : Int))
        if 0 ≤ x539 ∧ x539 < (6 : Nat) then
        if x539.toNat < 6 then
        let x541 : Int := IntKind.wrap .i64 ((32 : Int) - v522)
        if x541 < 0 then
        none
        else
        if 0 ≤ v523 ∧ v523 < (6 : Nat) then
        if v523.toNat < 6 then
        r549 (IntKind.wrap .i64 (v523 + (1 : Int))) (List.set l532 (v523.toNat) (ibits .or .u32 (List.getD l532 v523.toNat 0) (IntKind.wrap .u32 ((List.getD a524 x539.toNat 0) * 2 ^ (min x541.toNat 32)))))
        else
        none
        else
        none
        else
        none
        else
        none
        else
        none
        else
        none)
        (
        r549 (IntKind.wrap .i64 (v523 + (1 : Int))) l532))
        (
        r549 (IntKind.wrap .i64 (v523 + (1 : Int))) l532)
        else
        none
        else
        none
      else
        none
    else
      none)
   (
    k548 a526)
def g109l0 {α : Type}   (v521 : Int) (v522 : Int) (a524 : List Int) (a525 : List Int) (k548 : (List Int) → Option α) : Nat → Int → (List Int) → Option α
  | 0 => fun _ _ => none
  | m + 1 => fun v523 a526 => g109l0b v521 v522 a524 a525 k548 (g109l0 v521 v522 a524 a525 k548 m) v523 a526
def g109l0M {α : Type} (m : Nat) : Int → Int → (List Int) → (List Int) → ((List Int) → Option α) → Int → (List Int) → Option α :=
  fun v521 v522 a524 a525 k548 v523 a526 => g109l0 v521 v522 a524 a525 k548 m v523 a526
def g109l0D : LoopD := { n := 53, low := [], sl := [2, 4, 5, 6, 7, 8], bl := [1000000, 1000001, 1000002], tp := [(.vl (.sv (.ptr 1000000 0))), (.vl (.sv (.ptr 1000001 0))), (.vl (.sv (.ptr 1000002 0))), (.vl (.sv (.int .i64))), (.vl (.sv (.int .i64))), (.vl (.sv (.int .i64)))], bp := [(true, [(.seq (.int .u32) 6)]), (true, [(.seq (.int .u32) 6)]), (true, [(.seq (.int .u32) 6)])], xs := [(2, [4, 5])] }
def g109l0K {α : Type} (L : Int → Int → (List Int) → (List Int) → ((List Int) → Option α) → Int → (List Int) → Option α) (ls : List Lf) (k : Ex → St → Option α) : Option α :=
  L (lf ls 0).int (lf ls 1).int ((lf ls 3).lst (.int .u32)) ((lf ls 4).lst (.int .u32))
    (fun y1 => k .normal (mkSt 53 [4, 5] [(.vl (.sv (.ptr 1000000 0))), (.vl (.sv (.ptr 1000001 0)))] [1000000, 1000001] [(true, [(.seq (.int .u32) 6 ((lf ls 4).lst (.int .u32)))]), (true, [(.seq (.int .u32) 6 y1)])]))
    (lf ls 2).int ((lf ls 5).lst (.int .u32))
def g109b {α : Type}  (L_g109l0 : {α : Type} → Int → Int → (List Int) → (List Int) → ((List Int) → Option α) → Int → (List Int) → Option α) (u517 : List Int) (p518 : Int) (k551 : (List Int) → Option α) : Option α :=
  L_g109l0 (IntKind.wrap .i64 (Int.tdiv p518 (32 : Int))) (Int.tmod p518 (32 : Int)) u517 [0, 0, 0, 0, 0, 0]
    (fun l550 =>
      k551 l550)
    (0 : Int) [0, 0, 0, 0, 0, 0]
def g109 {α : Type} (m : Nat) : (List Int) → Int → ((List Int) → Option α) → Option α :=
  g109b (g109l0M m)
def g109tp : List TP := [(.vl (.agg [(.seq (.int .u32) 6)])), (.vl (.sv (.int .i64)))]
def g109bp : List BP := []
def g109K {α : Type} (G : (List Int) → Int → ((List Int) → Option α) → Option α) (ls : List Lf) (k : TV → List (List Seg) → List (List Seg) → Option α) : Option α :=
  G ((lf ls 0).lst (.int .u32)) (lf ls 1).int
    (fun y0 => k (.vl (.agg [(.seq (.int .u32) 6 y0)])) [] [])
def g109hd  (L_g109l0 : {α : Type} → Int → Int → (List Int) → (List Int) → ((List Int) → Option α) → Int → (List Int) → Option α) : Hd where
  call := fun f args Bs k => none
  loop := fun id st k => cond (Nat.beq id 0) (loopH g109l0D (g109l0K L_g109l0) st k) (none)
  ro := fun f => []
def g109h (m : Nat) : Hd := g109hd (g109l0M m)
theorem g109l0Step  (L_g109l0 : {α : Type} → Int → Int → (List Int) → (List Int) → ((List Int) → Option α) → Int → (List Int) → Option α) {α : Type} (L : Int → Int → (List Int) → (List Int) → ((List Int) → Option α) → Int → (List Int) → Option α) (ls : List Lf) (k : Ex → St → Option α) :
    g109l0K (fun v521 v522 a524 a525 k548 v523 a526 => g109l0b v521 v522 a524 a525 k548 (L v521 v522 a524 a525 k548) v523 a526) ls k = ev tab (g109hd L_g109l0) (bodyAt Go.Proofs.Try.f109 0) (atHead g109l0D ls) (loopK g109l0D 0 (loopH g109l0D (g109l0K L)) k) := by kernel_rfl
theorem g109Main  (L_g109l0 : {α : Type} → Int → Int → (List Int) → (List Int) → ((List Int) → Option α) → Int → (List Int) → Option α) {α : Type} (ls : List Lf) (k : TV → List (List Seg) → List (List Seg) → Option α) :
    g109K (g109b L_g109l0) ls k = evFun tab (g109hd L_g109l0) Go.Proofs.Try.f109 (fillT g109tp ls).1 (fillB g109bp (fillT g109tp ls).2).1 k := by kernel_rfl
theorem g109Calls (m : Nat) : (g109h m).CallsOk Go.Proofs.Try.prog := cok_nil
theorem g109l0Ok (m : Nat) (α : Type) (st : St) (k : Ex → St → Option α) (r : α) (h : (g109h m).loop 0 st k = some r) :
    ∃ e st', k e st' = some r ∧ CodeS Go.Proofs.Try.prog (.block 0 (.loop (bodyAt Go.Proofs.Try.f109 0))) st e st' :=
  loop_ok (tab := tab) (h := g109h m) (F := fun n ls k => g109l0K (fun v521 v522 a524 a525 k548 v523 a526 => g109l0 v521 v522 a524 a525 k548 n v523 a526) ls k) tabOk (g109Calls m) mixed (loopsOk_of _ (fun p hp => by rw [show loopsOf (bodyAt Go.Proofs.Try.f109 0) = [] by kernel_rfl] at hp; cases hp))
    (fun _ _ => rfl) (fun n ls k => g109l0Step (g109l0M m) (fun v521 v522 a524 a525 k548 => g109l0 v521 v522 a524 a525 k548 n) ls k) (n := m) h
theorem g109Fn (m : Nat) : FnOk Go.Proofs.Try.prog 109 g109tp g109bp (fun {α} => g109K (g109 (α := α) m)) :=
  fn_ok (tab := tab) (h := g109h m) (fn := Go.Proofs.Try.f109) (F := fun {α} => g109K (g109 (α := α) m)) tabOk (g109Calls m) mixed (by kernel_rfl) (by kernel_rfl) (fun c hc => by
    rw [bodyOf_some hc]
    exact loopsOk_of _ (fun p hp => by
    rw [show loopsOf (bodyOf Go.Proofs.Try.f109) = [(0, bodyAt Go.Proofs.Try.f109 0)] by kernel_rfl] at hp
    simp only [List.mem_cons, List.not_mem_nil, or_false] at hp
    rcases hp with rfl
    exact g109l0Ok m))
    (fun α ls k => g109Main (g109l0M m) ls k)
theorem g109Ok (m : Nat) : RowOk Go.Proofs.Try.prog 109 (fun {α} => rowK g109tp g109bp (g109K (g109 (α := α) m))) := row_of (g109Fn m)

/-! ### g96: (impl.size).by -/
def g96l0b {α : Type} (G_g124 : {α : Type} → Nat → Nat → Nat → Nat → Nat → Nat → (List Int) → (List Int) → (Int → (List Int) → Option α) → Option α)  (v352 : Int) (v353 : Int) (a355 : List Int) (a356 : List Int) (a357 : List Int) (k512 : (List Int) → (List Int) → Option α) (r513 : Int → (List Int) → (List Int) → Option α) (v354 : Int) (a358 : List Int) (a359 : List Int) : Option α :=
  cond (decide (v354 ≥ (0 : Int)))
   (
    let x362 : Int := IntKind.wrap .i64 ((IntKind.wrap .i64 (v354 + v352)) + (1 : Int))
    if 0 ≤ v354 ∧ v354 ≤ x362 ∧ x362 ≤ ((7 : Nat) : Int) then
      if 0 ≤ (0 : Int) ∧ (0 : Int) ≤ v352 ∧ v352 ≤ ((6 : Nat) : Int) then
        G_g124 (cond (Nat.beq 7 (Int.toNat v354)) 0 (Int.toNat v354)) ((Int.toNat x362) - (Int.toNat v354)) (7 - (Int.toNat v354)) 0 ((Int.toNat v352) - 0) 6 a358 a357
        (fun x508 l509 =>
        if 0 ≤ v354 ∧ v354 < (6 : Nat) then
        if v354.toNat < 6 then
        r513 (IntKind.wrap .i64 (v354 - (1 : Int))) l509 (List.set a359 (v354.toNat) x508)
        else
        none
        else
        none)
      else
        none
    else
      none)
   (
    k512 a358 a359)
def g96l0 {α : Type} (G_g124 : {α : Type} → Nat → Nat → Nat → Nat → Nat → Nat → (List Int) → (List Int) → (Int → (List Int) → Option α) → Option α)  (v352 : Int) (v353 : Int) (a355 : List Int) (a356 : List Int) (a357 : List Int) (k512 : (List Int) → (List Int) → Option α) : Nat → Int → (List Int) → (List Int) → Option α
  | 0 => fun _ _ _ => none
  | m + 1 => fun v354 a358 a359 => g96l0b G_g124 v352 v353 a355 a356 a357 k512 (g96l0 G_g124 v352 v353 a355 a356 a357 k512 m) v354 a358 a359
def g96l0M {α : Type} (m : Nat) : Int → Int → (List Int) → (List Int) → (List Int) → ((List Int) → (List Int) → Option α) → Int → (List Int) → (List Int) → Option α :=
  fun v352 v353 a355 a356 a357 k512 v354 a358 a359 => g96l0 (g124 m) v352 v353 a355 a356 a357 k512 m v354 a358 a359
def g96l0D : LoopD := { n := 86, low := [], sl := [4, 5, 6, 9, 10, 11, 13, 14], bl := [1000000, 1000001, 1000002, 1000003, 1000004], tp := [(.vl (.sv (.ptr 1000000 0))), (.vl (.sv (.ptr 1000001 0))), (.vl (.sv (.int .i64))), (.vl (.sv (.int .i64))), (.vl (.sv (.ptr 1000002 0))), (.vl (.sv (.ptr 1000003 0))), (.vl (.sv (.ptr 1000004 0))), (.vl (.sv (.int .i64)))], bp := [(true, [(.seq (.int .u32) 6)]), (true, [(.seq (.int .u32) 6)]), (true, [(.seq (.int .u32) 6)]), (true, [(.seq (.int .u32) 7)]), (true, [(.seq (.int .u32) 6)])], xs := [(2, [4, 5, 9, 11, 13])] }
def g96l0K {α : Type} (L : Int → Int → (List Int) → (List Int) → (List Int) → ((List Int) → (List Int) → Option α) → Int → (List Int) → (List Int) → Option α) (ls : List Lf) (k : Ex → St → Option α) : Option α :=
  L (lf ls 0).int (lf ls 1).int ((lf ls 3).lst (.int .u32)) ((lf ls 4).lst (.int .u32)) ((lf ls 5).lst (.int .u32))
    (fun y3 y4 => k .normal (mkSt 86 [4, 5, 9, 11, 13] [(.vl (.sv (.ptr 1000000 0))), (.vl (.sv (.ptr 1000001 0))), (.vl (.sv (.int .i64 (lf ls 1).int))), (.vl (.sv (.ptr 1000002 0))), (.vl (.sv (.ptr 1000003 0)))] [1000000, 1000001, 1000002, 1000003] [(true, [(.seq (.int .u32) 6 ((lf ls 3).lst (.int .u32)))]), (true, [(.seq (.int .u32) 6 ((lf ls 4).lst (.int .u32)))]), (true, [(.seq (.int .u32) 7 y3)]), (true, [(.seq (.int .u32) 6 y4)])]))
    (lf ls 2).int ((lf ls 6).lst (.int .u32)) ((lf ls 7).lst (.int .u32))
def g96b {α : Type} (G_g107 : {α : Type} → (List Int) → (Int → Option α) → Option α) (G_g122 : {α : Type} → (List Int) → Int → ((List Int) → Int → Option α) → Option α) (G_g89 : {α : Type} → (List Int) → (List Int) → (Int → Option α) → Option α) (G_g123 : {α : Type} → Int → (Int → Option α) → Option α) (G_g108 : {α : Type} → (List Int) → Int → ((List Int) → Option α) → Option α) (G_g124 : {α : Type} → Nat → Nat → Nat → Nat → Nat → Nat → (List Int) → (List Int) → (Int → (List Int) → Option α) → Option α) (G_g109 : {α : Type} → (List Int) → Int → ((List Int) → Option α) → Option α) (L_g96l0 : {α : Type} → Int → Int → (List Int) → (List Int) → (List Int) → ((List Int) → (List Int) → Option α) → Int → (List Int) → (List Int) → Option α) (u210 : List Int) (u211 : List Int) (k558 : (List Int) → (List Int) → Option α) : Option α :=
  G_g107 u211
    (fun x252 =>
      let x254 : Int := IntKind.wrap .i64 (Int.tdiv (IntKind.wrap .i64 (x252 + (31 : Int))) (32 : Int))
      cond (x254 == (1 : Int))
       (
        G_g122 u210 (List.getD u211 0 0)
        (fun l282 x283 =>
        k558 l282 [x283, 0, 0, 0, 0, 0]))
       (
        G_g89 u210 u211
        (fun x302 =>
        cond (decide (x302 < (0 : Int)))
        (
        k558 [0, 0, 0, 0, 0, 0] u210)
        (
        let x304 : Int := IntKind.wrap .i64 (x254 - (1 : Int))
        if 0 ≤ x304 ∧ x304 < (6 : Nat) then
        if x304.toNat < 6 then
        G_g123 (List.getD u211 x304.toNat 0)
        (fun x310 =>
        G_g108 u211 x310
        (fun l343 =>
        G_g108 u210 x310
        (fun l344 =>
        let l345 : List Int := List.take 0 [0, 0, 0, 0, 0, 0, 0] ++ (List.take 6 (List.drop 0 l344) ++ List.drop (0 + 6) [0, 0, 0, 0, 0, 0, 0])
        cond (decide (x310 > (0 : Int)))
        (
        let x348 : Int := IntKind.wrap .i64 ((32 : Int) - x310)
        if x348 < 0 then
        none
        else
        L_g96l0 x254 x310 [0, 0, 0, 0, 0, 0] [0, 0, 0, 0, 0, 0] l343
        (fun l514 l515 =>
        G_g109 (List.take 0 [0, 0, 0, 0, 0, 0] ++ (List.take 6 (List.drop 0 l514) ++ List.drop (0 + 6) [0, 0, 0, 0, 0, 0])) x310
        (fun l552 =>
        k558 l515 l552))
        (IntKind.wrap .i64 ((6 : Int) - x254)) (List.set l345 6 (Int.fdiv (List.getD u210 5 0) (2 ^ (min x348.toNat 32)))) [0, 0, 0, 0, 0, 0])
        (
        L_g96l0 x254 x310 [0, 0, 0, 0, 0, 0] [0, 0, 0, 0, 0, 0] l343
        (fun l554 l555 =>
        G_g109 (List.take 0 [0, 0, 0, 0, 0, 0] ++ (List.take 6 (List.drop 0 l554) ++ List.drop (0 + 6) [0, 0, 0, 0, 0, 0])) x310
        (fun l557 =>
        k558 l555 l557))
        (IntKind.wrap .i64 ((6 : Int) - x254)) l345 [0, 0, 0, 0, 0, 0]))))
        else
        none
        else
        none))))
def g96 {α : Type} (m : Nat) : (List Int) → (List Int) → ((List Int) → (List Int) → Option α) → Option α :=
  g96b (g107 m) (g122 m) (g89 m) (g123 m) (g108 m) (g124 m) (g109 m) (g96l0M m)
def g96tp : List TP := [(.vl (.agg [(.seq (.int .u32) 6)])), (.vl (.agg [(.seq (.int .u32) 6)]))]
def g96bp : List BP := []
def g96K {α : Type} (G : (List Int) → (List Int) → ((List Int) → (List Int) → Option α) → Option α) (ls : List Lf) (k : TV → List (List Seg) → List (List Seg) → Option α) : Option α :=
  G ((lf ls 0).lst (.int .u32)) ((lf ls 1).lst (.int .u32))
    (fun y0 y1 => k (.tup [(.agg [(.seq (.int .u32) 6 y0)]), (.agg [(.seq (.int .u32) 6 y1)])]) [] [])
def g96hd (G_g107 : {α : Type} → (List Int) → (Int → Option α) → Option α) (G_g122 : {α : Type} → (List Int) → Int → ((List Int) → Int → Option α) → Option α) (G_g89 : {α : Type} → (List Int) → (List Int) → (Int → Option α) → Option α) (G_g123 : {α : Type} → Int → (Int → Option α) → Option α) (G_g108 : {α : Type} → (List Int) → Int → ((List Int) → Option α) → Option α) (G_g124 : {α : Type} → Nat → Nat → Nat → Nat → Nat → Nat → (List Int) → (List Int) → (Int → (List Int) → Option α) → Option α) (G_g109 : {α : Type} → (List Int) → Int → ((List Int) → Option α) → Option α) (L_g96l0 : {α : Type} → Int → Int → (List Int) → (List Int) → (List Int) → ((List Int) → (List Int) → Option α) → Int → (List Int) → (List Int) → Option α) : Hd where
  call := fun f args Bs k => cond (Nat.beq f 107) (rowK g107tp g107bp (g107K G_g107) args Bs k) (cond (Nat.beq f 122) (rowK g122tp g122bp (g122K G_g122) args Bs k) (cond (Nat.beq f 89) (rowK g89tp g89bp (g89K G_g89) args Bs k) (cond (Nat.beq f 123) (rowK g123tp g123bp (g123K G_g123) args Bs k) (cond (Nat.beq f 108) (rowK g108tp g108bp (g108K G_g108) args Bs k) (cond (Nat.beq f 124) (rowK g124tp g124bp (g124K G_g124) args Bs k) (cond (Nat.beq f 109) (rowK g109tp g109bp (g109K G_g109) args Bs k) (none)))))))
  loop := fun id st k => cond (Nat.beq id 0) (loopH g96l0D (g96l0K L_g96l0) st k) (none)
  ro := fun f => cond (Nat.beq f 124) [1] ([])
def g96h (m : Nat) : Hd := g96hd (g107 m) (g122 m) (g89 m) (g123 m) (g108 m) (g124 m) (g109 m) (g96l0M m)
theorem g96l0Step (G_g107 : {α : Type} → (List Int) → (Int → Option α) → Option α) (G_g122 : {α : Type} → (List Int) → Int → ((List Int) → Int → Option α) → Option α) (G_g89 : {α : Type} → (List Int) → (List Int) → (Int → Option α) → Option α) (G_g123 : {α : Type} → Int → (Int → Option α) → Option α) (G_g108 : {α : Type} → (List Int) → Int → ((List Int) → Option α) → Option α) (G_g124 : {α : Type} → Nat → Nat → Nat → Nat → Nat → Nat → (List Int) → (List Int) → (Int → (List Int) → Option α) → Option α) (G_g109 : {α : Type} → (List Int) → Int → ((List Int) → Option α) → Option α) (L_g96l0 : {α : Type} → Int → Int → (List Int) → (List Int) → (List Int) → ((List Int) → (List Int) → Option α) → Int → (List Int) → (List Int) → Option α) {α : Type} (L : Int → Int → (List Int) → (List Int) → (List Int) → ((List Int) → (List Int) → Option α) → Int → (List Int) → (List Int) → Option α) (ls : List Lf) (k : Ex → St → Option α) :
    g96l0K (fun v352 v353 a355 a356 a357 k512 v354 a358 a359 => g96l0b G_g124 v352 v353 a355 a356 a357 k512 (L v352 v353 a355 a356 a357 k512) v354 a358 a359) ls k = ev tab (g96hd G_g107 G_g122 G_g89 G_g123 G_g108 G_g124 G_g109 L_g96l0) (bodyAt Go.Proofs.Try.f96 0) (atHead g96l0D ls) (loopK g96l0D 0 (loopH g96l0D (g96l0K L)) k) := by kernel_rfl
theorem g96Main (G_g107 : {α : Type} → (List Int) → (Int → Option α) → Option α) (G_g122 : {α : Type} → (List Int) → Int → ((List Int) → Int → Option α) → Option α) (G_g89 : {α : Type} → (List Int) → (List Int) → (Int → Option α) → Option α) (G_g123 : {α : Type} → Int → (Int → Option α) → Option α) (G_g108 : {α : Type} → (List Int) → Int → ((List Int) → Option α) → Option α) (G_g124 : {α : Type} → Nat → Nat → Nat → Nat → Nat → Nat → (List Int) → (List Int) → (Int → (List Int) → Option α) → Option α) (G_g109 : {α : Type} → (List Int) → Int → ((List Int) → Option α) → Option α) (L_g96l0 : {α : Type} → Int → Int → (List Int) → (List Int) → (List Int) → ((List Int) → (List Int) → Option α) → Int → (List Int) → (List Int) → Option α) {α : Type} (ls : List Lf) (k : TV → List (List Seg) → List (List Seg) → Option α) :
    g96K (g96b G_g107 G_g122 G_g89 G_g123 G_g108 G_g124 G_g109 L_g96l0) ls k = evFun tab (g96hd G_g107 G_g122 G_g89 G_g123 G_g108 G_g124 G_g109 L_g96l0) Go.Proofs.Try.f96 (fillT g96tp ls).1 (fillB g96bp (fillT g96tp ls).2).1 k := by kernel_rfl
theorem g96Calls (m : Nat) : (g96h m).CallsOk Go.Proofs.Try.prog := (cok_cons (g107Ok m) (cok_cons (g122Ok m) (cok_cons (g89Ok m) (cok_cons (g123Ok m) (cok_cons (g108Ok m) (cok_cons (g124Ok m) (cok_cons (g109Ok m) cok_nil)))))))
theorem g96l0Ok (m : Nat) (α : Type) (st : St) (k : Ex → St → Option α) (r : α) (h : (g96h m).loop 0 st k = some r) :
    ∃ e st', k e st' = some r ∧ CodeS Go.Proofs.Try.prog (.block 0 (.loop (bodyAt Go.Proofs.Try.f96 0))) st e st' :=
  loop_ok (tab := tab) (h := g96h m) (F := fun n ls k => g96l0K (fun v352 v353 a355 a356 a357 k512 v354 a358 a359 => g96l0 (g124 m) v352 v353 a355 a356 a357 k512 n v354 a358 a359) ls k) tabOk (g96Calls m) mixed (loopsOk_of _ (fun p hp => by rw [show loopsOf (bodyAt Go.Proofs.Try.f96 0) = [] by kernel_rfl] at hp; cases hp))
    (fun _ _ => rfl) (fun n ls k => g96l0Step (g107 m) (g122 m) (g89 m) (g123 m) (g108 m) (g124 m) (g109 m) (g96l0M m) (fun v352 v353 a355 a356 a357 k512 => g96l0 (g124 m) v352 v353 a355 a356 a357 k512 n) ls k) (n := m) h
theorem g96Fn (m : Nat) : FnOk Go.Proofs.Try.prog 96 g96tp g96bp (fun {α} => g96K (g96 (α := α) m)) :=
  fn_ok (tab := tab) (h := g96h m) (fn := Go.Proofs.Try.f96) (F := fun {α} => g96K (g96 (α := α) m)) tabOk (g96Calls m) mixed (by kernel_rfl) (by kernel_rfl) (fun c hc => by
    rw [bodyOf_some hc]
    exact loopsOk_of _ (fun p hp => by
    rw [show loopsOf (bodyOf Go.Proofs.Try.f96) = [(0, bodyAt Go.Proofs.Try.f96 0)] by kernel_rfl] at hp
    simp only [List.mem_cons, List.not_mem_nil, or_false] at hp
    rcases hp with rfl
    exact g96l0Ok m))
    (fun α ls k => g96Main (g107 m) (g122 m) (g89 m) (g123 m) (g108 m) (g124 m) (g109 m) (g96l0M m) ls k)
theorem g96Ok (m : Nat) : RowOk Go.Proofs.Try.prog 96 (fun {α} => rowK g96tp g96bp (g96K (g96 (α := α) m))) := row_of (g96Fn m)

/-! ### g98: impl.one -/
def g98b {α : Type}    (k563 : (List Int) → Option α) : Option α :=
  k563 [(1 : Int), 0, 0, 0, 0, 0]
def g98 {α : Type} (m : Nat) : ((List Int) → Option α) → Option α :=
  g98b
def g98tp : List TP := []
def g98bp : List BP := []
def g98K {α : Type} (G : ((List Int) → Option α) → Option α) (ls : List Lf) (k : TV → List (List Seg) → List (List Seg) → Option α) : Option α :=
  G 
    (fun y0 => k (.vl (.agg [(.seq (.int .u32) 6 y0)])) [] [])
def g98hd   : Hd where
  call := fun f args Bs k => none
  loop := fun id st k => none
  ro := fun f => []
def g98h (m : Nat) : Hd := g98hd
theorem g98Main   {α : Type} (ls : List Lf) (k : TV → List (List Seg) → List (List Seg) → Option α) :
    g98K (g98b) ls k = evFun tab (g98hd) Go.Proofs.Try.f98 (fillT g98tp ls).1 (fillB g98bp (fillT g98tp ls).2).1 k := by kernel_rfl
theorem g98Calls (m : Nat) : (g98h m).CallsOk Go.Proofs.Try.prog := cok_nil
theorem g98Fn (m : Nat) : FnOk Go.Proofs.Try.prog 98 g98tp g98bp (fun {α} => g98K (g98 (α := α) m)) :=
  fn_ok (tab := tab) (h := g98h m) (fn := Go.Proofs.Try.f98) (F := fun {α} => g98K (g98 (α := α) m)) tabOk (g98Calls m) mixed (by kernel_rfl) (by kernel_rfl) (fun c hc => by
    rw [bodyOf_some hc]
    exact loopsOk_of _ (fun p hp => by rw [show loopsOf (bodyOf Go.Proofs.Try.f98) = [] by kernel_rfl] at hp; cases hp))
    (fun α ls k => g98Main ls k)
theorem g98Ok (m : Nat) : RowOk Go.Proofs.Try.prog 98 (fun {α} => rowK g98tp g98bp (g98K (g98 (α := α) m))) := row_of (g98Fn m)

/-! ### g97: (impl.size).plus -/
def g97l0b {α : Type}   (a570 : List Int) (a571 : List Int) (k583 : Int → (List Int) → Option α) (r584 : Int → Int → (List Int) → Option α) (v567 : Int) (v568 : Int) (a569 : List Int) : Option α :=
  cond (decide (v568 < (6 : Int)))
   (
    if 0 ≤ v568 ∧ v568 < (6 : Nat) then
      if v568.toNat < 6 then
        if 0 ≤ v568 ∧ v568 < (6 : Nat) then
        if v568.toNat < 6 then
        let x578 : Int := IntKind.wrap .u64 (v567 + (IntKind.wrap .u64 ((IntKind.wrap .u64 (List.getD a569 v568.toNat 0)) + (IntKind.wrap .u64 (List.getD a570 v568.toNat 0)))))
        if 0 ≤ v568 ∧ v568 < (6 : Nat) then
        if v568.toNat < 6 then
        r584 (Int.fdiv x578 (2 ^ 32)) (IntKind.wrap .i64 (v568 + (1 : Int))) (List.set a569 (v568.toNat) (IntKind.wrap .u32 x578))
        else
        none
        else
        none
        else
        none
        else
        none
      else
        none
    else
      none)
   (
    k583 v567 a569)
def g97l0 {α : Type}   (a570 : List Int) (a571 : List Int) (k583 : Int → (List Int) → Option α) : Nat → Int → Int → (List Int) → Option α
  | 0 => fun _ _ _ => none
  | m + 1 => fun v567 v568 a569 => g97l0b a570 a571 k583 (g97l0 a570 a571 k583 m) v567 v568 a569
def g97l0M {α : Type} (m : Nat) : (List Int) → (List Int) → (Int → (List Int) → Option α) → Int → Int → (List Int) → Option α :=
  fun a570 a571 k583 v567 v568 a569 => g97l0 a570 a571 k583 m v567 v568 a569
def g97l0D : LoopD := { n := 32, low := [], sl := [2, 3, 4, 6, 8], bl := [1000000, 1000001, 1000002], tp := [(.vl (.sv (.ptr 1000000 0))), (.vl (.sv (.ptr 1000001 0))), (.vl (.sv (.ptr 1000002 0))), (.vl (.sv (.int .u64))), (.vl (.sv (.int .i64)))], bp := [(true, [(.seq (.int .u32) 6)]), (true, [(.seq (.int .u32) 6)]), (true, [(.seq (.int .u32) 6)])], xs := [(2, [2, 4, 6])] }
def g97l0K {α : Type} (L : (List Int) → (List Int) → (Int → (List Int) → Option α) → Int → Int → (List Int) → Option α) (ls : List Lf) (k : Ex → St → Option α) : Option α :=
  L ((lf ls 3).lst (.int .u32)) ((lf ls 4).lst (.int .u32))
    (fun y0 y1 => k .normal (mkSt 32 [2, 4, 6] [(.vl (.sv (.ptr 1000000 0))), (.vl (.sv (.ptr 1000001 0))), (.vl (.sv (.int .u64 y0)))] [1000000, 1000001] [(true, [(.seq (.int .u32) 6 y1)]), (true, [(.seq (.int .u32) 6 ((lf ls 4).lst (.int .u32)))])]))
    (lf ls 0).int (lf ls 1).int ((lf ls 2).lst (.int .u32))
def g97b {α : Type}  (L_g97l0 : {α : Type} → (List Int) → (List Int) → (Int → (List Int) → Option α) → Int → Int → (List Int) → Option α) (u565 : List Int) (u566 : List Int) (k588 : (List Int) → Bool → Option α) : Option α :=
  L_g97l0 u566 [0, 0, 0, 0, 0, 0]
    (fun x585 l586 =>
      k588 l586 (x585 != (0 : Int)))
    (0 : Int) (0 : Int) u565
def g97 {α : Type} (m : Nat) : (List Int) → (List Int) → ((List Int) → Bool → Option α) → Option α :=
  g97b (g97l0M m)
def g97tp : List TP := [(.vl (.agg [(.seq (.int .u32) 6)])), (.vl (.agg [(.seq (.int .u32) 6)]))]
def g97bp : List BP := []
def g97K {α : Type} (G : (List Int) → (List Int) → ((List Int) → Bool → Option α) → Option α) (ls : List Lf) (k : TV → List (List Seg) → List (List Seg) → Option α) : Option α :=
  G ((lf ls 0).lst (.int .u32)) ((lf ls 1).lst (.int .u32))
    (fun y0 y1 => k (.tup [(.agg [(.seq (.int .u32) 6 y0)]), (.sv (.bool y1))]) [] [])
def g97hd  (L_g97l0 : {α : Type} → (List Int) → (List Int) → (Int → (List Int) → Option α) → Int → Int → (List Int) → Option α) : Hd where
  call := fun f args Bs k => none
  loop := fun id st k => cond (Nat.beq id 0) (loopH g97l0D (g97l0K L_g97l0) st k) (none)
  ro := fun f => []
def g97h (m : Nat) : Hd := g97hd (g97l0M m)
theorem g97l0Step  (L_g97l0 : {α : Type} → (List Int) → (List Int) → (Int → (List Int) → Option α) → Int → Int → (List Int) → Option α) {α : Type} (L : (List Int) → (List Int) → (Int → (List Int) → Option α) → Int → Int → (List Int) → Option α) (ls : List Lf) (k : Ex → St → Option α) :
    g97l0K (fun a570 a571 k583 v567 v568 a569 => g97l0b a570 a571 k583 (L a570 a571 k583) v567 v568 a569) ls k = ev tab (g97hd L_g97l0) (bodyAt Go.Proofs.Try.f97 0) (atHead g97l0D ls) (loopK g97l0D 0 (loopH g97l0D (g97l0K L)) k) := by kernel_rfl
theorem g97Main  (L_g97l0 : {α : Type} → (List Int) → (List Int) → (Int → (List Int) → Option α) → Int → Int → (List Int) → Option α) {α : Type} (ls : List Lf) (k : TV → List (List Seg) → List (List Seg) → Option α) :
    g97K (g97b L_g97l0) ls k = evFun tab (g97hd L_g97l0) Go.Proofs.Try.f97 (fillT g97tp ls).1 (fillB g97bp (fillT g97tp ls).2).1 k := by kernel_rfl
theorem g97Calls (m : Nat) : (g97h m).CallsOk Go.Proofs.Try.prog := cok_nil
theorem g97l0Ok (m : Nat) (α : Type) (st : St) (k : Ex → St → Option α) (r : α) (h : (g97h m).loop 0 st k = some r) :
    ∃ e st', k e st' = some r ∧ CodeS Go.Proofs.Try.prog (.block 0 (.loop (bodyAt Go.Proofs.Try.f97 0))) st e st' :=
  loop_ok (tab := tab) (h := g97h m) (F := fun n ls k => g97l0K (fun a570 a571 k583 v567 v568 a569 => g97l0 a570 a571 k583 n v567 v568 a569) ls k) tabOk (g97Calls m) mixed (loopsOk_of _ (fun p hp => by rw [show loopsOf (bodyAt Go.Proofs.Try.f97 0) = [] by kernel_rfl] at hp; cases hp))
    (fun _ _ => rfl) (fun n ls k => g97l0Step (g97l0M m) (fun a570 a571 k583 => g97l0 a570 a571 k583 n) ls k) (n := m) h
theorem g97Fn (m : Nat) : FnOk Go.Proofs.Try.prog 97 g97tp g97bp (fun {α} => g97K (g97 (α := α) m)) :=
  fn_ok (tab := tab) (h := g97h m) (fn := Go.Proofs.Try.f97) (F := fun {α} => g97K (g97 (α := α) m)) tabOk (g97Calls m) mixed (by kernel_rfl) (by kernel_rfl) (fun c hc => by
    rw [bodyOf_some hc]
    exact loopsOk_of _ (fun p hp => by
    rw [show loopsOf (bodyOf Go.Proofs.Try.f97) = [(0, bodyAt Go.Proofs.Try.f97 0)] by kernel_rfl] at hp
    simp only [List.mem_cons, List.not_mem_nil, or_false] at hp
    rcases hp with rfl
    exact g97l0Ok m))
    (fun α ls k => g97Main (g97l0M m) ls k)
theorem g97Ok (m : Nat) : RowOk Go.Proofs.Try.prog 97 (fun {α} => rowK g97tp g97bp (g97K (g97 (α := α) m))) := row_of (g97Fn m)

/-! ### g99: (impl.size).minus -/
def g99l0b {α : Type}   (a596 : List Int) (a597 : List Int) (k609 : (List Int) → Option α) (r610 : Int → Int → (List Int) → Option α) (v593 : Int) (v594 : Int) (a595 : List Int) : Option α :=
  cond (decide (v594 < (6 : Int)))
   (
    if 0 ≤ v594 ∧ v594 < (6 : Nat) then
      if v594.toNat < 6 then
        if 0 ≤ v594 ∧ v594 < (6 : Nat) then
        if v594.toNat < 6 then
        let x604 : Int := IntKind.wrap .u64 ((IntKind.wrap .u64 ((IntKind.wrap .u64 (List.getD a595 v594.toNat 0)) - (IntKind.wrap .u64 (List.getD a596 v594.toNat 0)))) - v593)
        if 0 ≤ v594 ∧ v594 < (6 : Nat) then
        if v594.toNat < 6 then
        r610 (Int.fdiv x604 (2 ^ 63)) (IntKind.wrap .i64 (v594 + (1 : Int))) (List.set a595 (v594.toNat) (IntKind.wrap .u32 x604))
        else
        none
        else
        none
        else
        none
        else
        none
      else
        none
    else
      none)
   (
    k609 a595)
def g99l0 {α : Type}   (a596 : List Int) (a597 : List Int) (k609 : (List Int) → Option α) : Nat → Int → Int → (List Int) → Option α
  | 0 => fun _ _ _ => none
  | m + 1 => fun v593 v594 a595 => g99l0b a596 a597 k609 (g99l0 a596 a597 k609 m) v593 v594 a595
def g99l0M {α : Type} (m : Nat) : (List Int) → (List Int) → ((List Int) → Option α) → Int → Int → (List Int) → Option α :=
  fun a596 a597 k609 v593 v594 a595 => g99l0 a596 a597 k609 m v593 v594 a595
def g99l0D : LoopD := { n := 30, low := [], sl := [2, 3, 4, 5, 8], bl := [1000000, 1000001, 1000002], tp := [(.vl (.sv (.ptr 1000000 0))), (.vl (.sv (.ptr 1000001 0))), (.vl (.sv (.ptr 1000002 0))), (.vl (.sv (.int .u64))), (.vl (.sv (.int .i64)))], bp := [(true, [(.seq (.int .u32) 6)]), (true, [(.seq (.int .u32) 6)]), (true, [(.seq (.int .u32) 6)])], xs := [(2, [2, 4])] }
def g99l0K {α : Type} (L : (List Int) → (List Int) → ((List Int) → Option α) → Int → Int → (List Int) → Option α) (ls : List Lf) (k : Ex → St → Option α) : Option α :=
  L ((lf ls 3).lst (.int .u32)) ((lf ls 4).lst (.int .u32))
    (fun y0 => k .normal (mkSt 30 [2, 4] [(.vl (.sv (.ptr 1000000 0))), (.vl (.sv (.ptr 1000001 0)))] [1000000, 1000001] [(true, [(.seq (.int .u32) 6 y0)]), (true, [(.seq (.int .u32) 6 ((lf ls 4).lst (.int .u32)))])]))
    (lf ls 0).int (lf ls 1).int ((lf ls 2).lst (.int .u32))
def g99b {α : Type}  (L_g99l0 : {α : Type} → (List Int) → (List Int) → ((List Int) → Option α) → Int → Int → (List Int) → Option α) (u591 : List Int) (u592 : List Int) (k612 : (List Int) → Option α) : Option α :=
  L_g99l0 u592 [0, 0, 0, 0, 0, 0]
    (fun l611 =>
      k612 l611)
    (0 : Int) (0 : Int) u591
def g99 {α : Type} (m : Nat) : (List Int) → (List Int) → ((List Int) → Option α) → Option α :=
  g99b (g99l0M m)
def g99tp : List TP := [(.vl (.agg [(.seq (.int .u32) 6)])), (.vl (.agg [(.seq (.int .u32) 6)]))]
def g99bp : List BP := []
def g99K {α : Type} (G : (List Int) → (List Int) → ((List Int) → Option α) → Option α) (ls : List Lf) (k : TV → List (List Seg) → List (List Seg) → Option α) : Option α :=
  G ((lf ls 0).lst (.int .u32)) ((lf ls 1).lst (.int .u32))
    (fun y0 => k (.vl (.agg [(.seq (.int .u32) 6 y0)])) [] [])
def g99hd  (L_g99l0 : {α : Type} → (List Int) → (List Int) → ((List Int) → Option α) → Int → Int → (List Int) → Option α) : Hd where
  call := fun f args Bs k => none
  loop := fun id st k => cond (Nat.beq id 0) (loopH g99l0D (g99l0K L_g99l0) st k) (none)
  ro := fun f => []
def g99h (m : Nat) : Hd := g99hd (g99l0M m)
theorem g99l0Step  (L_g99l0 : {α : Type} → (List Int) → (List Int) → ((List Int) → Option α) → Int → Int → (List Int) → Option α) {α : Type} (L : (List Int) → (List Int) → ((List Int) → Option α) → Int → Int → (List Int) → Option α) (ls : List Lf) (k : Ex → St → Option α) :
    g99l0K (fun a596 a597 k609 v593 v594 a595 => g99l0b a596 a597 k609 (L a596 a597 k609) v593 v594 a595) ls k = ev tab (g99hd L_g99l0) (bodyAt Go.Proofs.Try.f99 0) (atHead g99l0D ls) (loopK g99l0D 0 (loopH g99l0D (g99l0K L)) k) := by kernel_rfl
theorem g99Main  (L_g99l0 : {α : Type} → (List Int) → (List Int) → ((List Int) → Option α) → Int → Int → (List Int) → Option α) {α : Type} (ls : List Lf) (k : TV → List (List Seg) → List (List Seg) → Option α) :
    g99K (g99b L_g99l0) ls k = evFun tab (g99hd L_g99l0) Go.Proofs.Try.f99 (fillT g99tp ls).1 (fillB g99bp (fillT g99tp ls).2).1 k := by kernel_rfl
theorem g99Calls (m : Nat) : (g99h m).CallsOk Go.Proofs.Try.prog := cok_nil
theorem g99l0Ok (m : Nat) (α : Type) (st : St) (k : Ex → St → Option α) (r : α) (h : (g99h m).loop 0 st k = some r) :
    ∃ e st', k e st' = some r ∧ CodeS Go.Proofs.Try.prog (.block 0 (.loop (bodyAt Go.Proofs.Try.f99 0))) st e st' :=
  loop_ok (tab := tab) (h := g99h m) (F := fun n ls k => g99l0K (fun a596 a597 k609 v593 v594 a595 => g99l0 a596 a597 k609 n v593 v594 a595) ls k) tabOk (g99Calls m) mixed (loopsOk_of _ (fun p hp => by rw [show loopsOf (bodyAt Go.Proofs.Try.f99 0) = [] by kernel_rfl] at hp; cases hp))
    (fun _ _ => rfl) (fun n ls k => g99l0Step (g99l0M m) (fun a596 a597 k609 => g99l0 a596 a597 k609 n) ls k) (n := m) h
theorem g99Fn (m : Nat) : FnOk Go.Proofs.Try.prog 99 g99tp g99bp (fun {α} => g99K (g99 (α := α) m)) :=
  fn_ok (tab := tab) (h := g99h m) (fn := Go.Proofs.Try.f99) (F := fun {α} => g99K (g99 (α := α) m)) tabOk (g99Calls m) mixed (by kernel_rfl) (by kernel_rfl) (fun c hc => by
    rw [bodyOf_some hc]
    exact loopsOk_of _ (fun p hp => by
    rw [show loopsOf (bodyOf Go.Proofs.Try.f99) = [(0, bodyAt Go.Proofs.Try.f99 0)] by kernel_rfl] at hp
    simp only [List.mem_cons, List.not_mem_nil, or_false] at hp
    rcases hp with rfl
    exact g99l0Ok m))
    (fun α ls k => g99Main (g99l0M m) ls k)
theorem g99Ok (m : Nat) : RowOk Go.Proofs.Try.prog 99 (fun {α} => rowK g99tp g99bp (g99K (g99 (α := α) m))) := row_of (g99Fn m)

/-! ### g64: impl.wide -/
def g64b {α : Type}   (q615 : Bool) (u616 : List Int) (k618 : Bool → Option α) : Option α :=
  cond q615
   (
    k618 (!(eqLI u616 [0, 0, 0, 0, 0, 0])))
   (
    k618 false)
def g64 {α : Type} (m : Nat) : Bool → (List Int) → (Bool → Option α) → Option α :=
  g64b
def g64tp : List TP := [(.vl (.sv .bool)), (.vl (.agg [(.seq (.int .u32) 6)]))]
def g64bp : List BP := []
def g64K {α : Type} (G : Bool → (List Int) → (Bool → Option α) → Option α) (ls : List Lf) (k : TV → List (List Seg) → List (List Seg) → Option α) : Option α :=
  G (lf ls 0).bool ((lf ls 1).lst (.int .u32))
    (fun y0 => k (.vl (.agg [(.one (.bool y0)), (.seq (.int .u32) 6 ((lf ls 1).lst (.int .u32)))])) [] [])
def g64hd   : Hd where
  call := fun f args Bs k => none
  loop := fun id st k => none
  ro := fun f => []
def g64h (m : Nat) : Hd := g64hd
theorem g64Main   {α : Type} (ls : List Lf) (k : TV → List (List Seg) → List (List Seg) → Option α) :
    g64K (g64b) ls k = evFun tab (g64hd) Go.Proofs.Try.f64 (fillT g64tp ls).1 (fillB g64bp (fillT g64tp ls).2).1 k := by kernel_rfl
theorem g64Calls (m : Nat) : (g64h m).CallsOk Go.Proofs.Try.prog := cok_nil
theorem g64Fn (m : Nat) : FnOk Go.Proofs.Try.prog 64 g64tp g64bp (fun {α} => g64K (g64 (α := α) m)) :=
  fn_ok (tab := tab) (h := g64h m) (fn := Go.Proofs.Try.f64) (F := fun {α} => g64K (g64 (α := α) m)) tabOk (g64Calls m) mixed (by kernel_rfl) (by kernel_rfl) (fun c hc => by
    rw [bodyOf_some hc]
    exact loopsOk_of _ (fun p hp => by rw [show loopsOf (bodyOf Go.Proofs.Try.f64) = [] by kernel_rfl] at hp; cases hp))
    (fun α ls k => g64Main ls k)
theorem g64Ok (m : Nat) : RowOk Go.Proofs.Try.prog 64 (fun {α} => rowK g64tp g64bp (g64K (g64 (α := α) m))) := row_of (g64Fn m)

/-! ### g55: impl.divide -/
def g55b {α : Type} (G_g96 : {α : Type} → (List Int) → (List Int) → ((List Int) → (List Int) → Option α) → Option α) (G_g98 : {α : Type} → ((List Int) → Option α) → Option α) (G_g97 : {α : Type} → (List Int) → (List Int) → ((List Int) → Bool → Option α) → Option α) (G_g99 : {α : Type} → (List Int) → (List Int) → ((List Int) → Option α) → Option α) (G_g64 : {α : Type} → Bool → (List Int) → (Bool → Option α) → Option α)  (q206 : Bool) (u207 : List Int) (q208 : Bool) (u209 : List Int) (k627 : Bool → (List Int) → Bool → (List Int) → Option α) : Option α :=
  G_g96 u207 u209
    (fun l559 l560 =>
      cond (!(q206 == q208))
       (
        cond (!(eqLI l560 [0, 0, 0, 0, 0, 0]))
        (
        G_g98
        (fun l564 =>
        G_g97 l559 l564
        (fun l589 b590 =>
        G_g99 u209 l560
        (fun l613 =>
        G_g64 (!(q206 == q208)) l589
        (fun b619 =>
        G_g64 q208 l613
        (fun b620 =>
        k627 b619 l589 b620 l613))))))
        (
        G_g64 (!(q206 == q208)) l559
        (fun b622 =>
        G_g64 q208 l560
        (fun b623 =>
        k627 b622 l559 b623 l560))))
       (
        G_g64 (!(q206 == q208)) l559
        (fun b625 =>
        G_g64 q208 l560
        (fun b626 =>
        k627 b625 l559 b626 l560))))
def g55 {α : Type} (m : Nat) : Bool → (List Int) → Bool → (List Int) → (Bool → (List Int) → Bool → (List Int) → Option α) → Option α :=
  g55b (g96 m) (g98 m) (g97 m) (g99 m) (g64 m)
def g55tp : List TP := [(.vl (.agg [(.one .bool), (.seq (.int .u32) 6)])), (.vl (.agg [(.one .bool), (.seq (.int .u32) 6)]))]
def g55bp : List BP := []
def g55K {α : Type} (G : Bool → (List Int) → Bool → (List Int) → (Bool → (List Int) → Bool → (List Int) → Option α) → Option α) (ls : List Lf) (k : TV → List (List Seg) → List (List Seg) → Option α) : Option α :=
  G (lf ls 0).bool ((lf ls 1).lst (.int .u32)) (lf ls 2).bool ((lf ls 3).lst (.int .u32))
    (fun y0 y1 y2 y3 => k (.tup [(.agg [(.one (.bool y0)), (.seq (.int .u32) 6 y1)]), (.agg [(.one (.bool y2)), (.seq (.int .u32) 6 y3)])]) [] [])
def g55hd (G_g96 : {α : Type} → (List Int) → (List Int) → ((List Int) → (List Int) → Option α) → Option α) (G_g98 : {α : Type} → ((List Int) → Option α) → Option α) (G_g97 : {α : Type} → (List Int) → (List Int) → ((List Int) → Bool → Option α) → Option α) (G_g99 : {α : Type} → (List Int) → (List Int) → ((List Int) → Option α) → Option α) (G_g64 : {α : Type} → Bool → (List Int) → (Bool → Option α) → Option α)  : Hd where
  call := fun f args Bs k => cond (Nat.beq f 96) (rowK g96tp g96bp (g96K G_g96) args Bs k) (cond (Nat.beq f 98) (rowK g98tp g98bp (g98K G_g98) args Bs k) (cond (Nat.beq f 97) (rowK g97tp g97bp (g97K G_g97) args Bs k) (cond (Nat.beq f 99) (rowK g99tp g99bp (g99K G_g99) args Bs k) (cond (Nat.beq f 64) (rowK g64tp g64bp (g64K G_g64) args Bs k) (none)))))
  loop := fun id st k => none
  ro := fun f => []
def g55h (m : Nat) : Hd := g55hd (g96 m) (g98 m) (g97 m) (g99 m) (g64 m)
theorem g55Main (G_g96 : {α : Type} → (List Int) → (List Int) → ((List Int) → (List Int) → Option α) → Option α) (G_g98 : {α : Type} → ((List Int) → Option α) → Option α) (G_g97 : {α : Type} → (List Int) → (List Int) → ((List Int) → Bool → Option α) → Option α) (G_g99 : {α : Type} → (List Int) → (List Int) → ((List Int) → Option α) → Option α) (G_g64 : {α : Type} → Bool → (List Int) → (Bool → Option α) → Option α)  {α : Type} (ls : List Lf) (k : TV → List (List Seg) → List (List Seg) → Option α) :
    g55K (g55b G_g96 G_g98 G_g97 G_g99 G_g64) ls k = evFun tab (g55hd G_g96 G_g98 G_g97 G_g99 G_g64) Go.Proofs.Try.f55 (fillT g55tp ls).1 (fillB g55bp (fillT g55tp ls).2).1 k := by kernel_rfl
theorem g55Calls (m : Nat) : (g55h m).CallsOk Go.Proofs.Try.prog := (cok_cons (g96Ok m) (cok_cons (g98Ok m) (cok_cons (g97Ok m) (cok_cons (g99Ok m) (cok_cons (g64Ok m) cok_nil)))))
theorem g55Fn (m : Nat) : FnOk Go.Proofs.Try.prog 55 g55tp g55bp (fun {α} => g55K (g55 (α := α) m)) :=
  fn_ok (tab := tab) (h := g55h m) (fn := Go.Proofs.Try.f55) (F := fun {α} => g55K (g55 (α := α) m)) tabOk (g55Calls m) mixed (by kernel_rfl) (by kernel_rfl) (fun c hc => by
    rw [bodyOf_some hc]
    exact loopsOk_of _ (fun p hp => by rw [show loopsOf (bodyOf Go.Proofs.Try.f55) = [] by kernel_rfl] at hp; cases hp))
    (fun α ls k => g55Main (g96 m) (g98 m) (g97 m) (g99 m) (g64 m) ls k)
theorem g55Ok (m : Nat) : RowOk Go.Proofs.Try.prog 55 (fun {α} => rowK g55tp g55bp (g55K (g55 (α := α) m))) := row_of (g55Fn m)

/-! ### g13: impl.DivWides -/
def g13b {α : Type} (G_g53 : {α : Type} → Bool → (List Int) → (Bool → Option α) → Option α) (G_g54 : {α : Type} → Bool → (List Int) → (Int → Option α) → Option α) (G_g55 : {α : Type} → Bool → (List Int) → Bool → (List Int) → (Bool → (List Int) → Bool → (List Int) → Option α) → Option α)  (q187 : Bool) (u188 : List Int) (q189 : Bool) (u190 : List Int) (k632 : Bool → (List Int) → Bool → (List Int) → Int → Option α) : Option α :=
  G_g53 q187 u188
    (fun b196 =>
      cond (!b196)
       (
        k632 false [0, 0, 0, 0, 0, 0] false [0, 0, 0, 0, 0, 0] (1 : Int))
       (
        G_g53 q189 u190
        (fun b198 =>
        cond (!b198)
        (
        k632 false [0, 0, 0, 0, 0, 0] false [0, 0, 0, 0, 0, 0] (1 : Int))
        (
        G_g54 q189 u190
        (fun x204 =>
        cond (x204 == (0 : Int))
        (
        k632 false [0, 0, 0, 0, 0, 0] false [0, 0, 0, 0, 0, 0] (4 : Int))
        (
        G_g55 q187 u188 q189 u190
        (fun b628 l629 b630 l631 =>
        k632 b628 l629 b630 l631 (0 : Int))))))))
def g13 {α : Type} (m : Nat) : Bool → (List Int) → Bool → (List Int) → (Bool → (List Int) → Bool → (List Int) → Int → Option α) → Option α :=
  g13b (g53 m) (g54 m) (g55 m)
def g13tp : List TP := [(.vl (.agg [(.one .bool), (.seq (.int .u32) 6)])), (.vl (.agg [(.one .bool), (.seq (.int .u32) 6)]))]
def g13bp : List BP := []
def g13K {α : Type} (G : Bool → (List Int) → Bool → (List Int) → (Bool → (List Int) → Bool → (List Int) → Int → Option α) → Option α) (ls : List Lf) (k : TV → List (List Seg) → List (List Seg) → Option α) : Option α :=
  G (lf ls 0).bool ((lf ls 1).lst (.int .u32)) (lf ls 2).bool ((lf ls 3).lst (.int .u32))
    (fun y0 y1 y2 y3 y4 => k (.tup [(.agg [(.one (.bool y0)), (.seq (.int .u32) 6 y1)]), (.agg [(.one (.bool y2)), (.seq (.int .u32) 6 y3)]), (.sv (.int .i64 y4))]) [] [])
def g13hd (G_g53 : {α : Type} → Bool → (List Int) → (Bool → Option α) → Option α) (G_g54 : {α : Type} → Bool → (List Int) → (Int → Option α) → Option α) (G_g55 : {α : Type} → Bool → (List Int) → Bool → (List Int) → (Bool → (List Int) → Bool → (List Int) → Option α) → Option α)  : Hd where
  call := fun f args Bs k => cond (Nat.beq f 53) (rowK g53tp g53bp (g53K G_g53) args Bs k) (cond (Nat.beq f 54) (rowK g54tp g54bp (g54K G_g54) args Bs k) (cond (Nat.beq f 55) (rowK g55tp g55bp (g55K G_g55) args Bs k) (none)))
  loop := fun id st k => none
  ro := fun f => []
def g13h (m : Nat) : Hd := g13hd (g53 m) (g54 m) (g55 m)
theorem g13Main (G_g53 : {α : Type} → Bool → (List Int) → (Bool → Option α) → Option α) (G_g54 : {α : Type} → Bool → (List Int) → (Int → Option α) → Option α) (G_g55 : {α : Type} → Bool → (List Int) → Bool → (List Int) → (Bool → (List Int) → Bool → (List Int) → Option α) → Option α)  {α : Type} (ls : List Lf) (k : TV → List (List Seg) → List (List Seg) → Option α) :
    g13K (g13b G_g53 G_g54 G_g55) ls k = evFun tab (g13hd G_g53 G_g54 G_g55) Go.Proofs.Try.f13 (fillT g13tp ls).1 (fillB g13bp (fillT g13tp ls).2).1 k := by kernel_rfl
theorem g13Calls (m : Nat) : (g13h m).CallsOk Go.Proofs.Try.prog := (cok_cons (g53Ok m) (cok_cons (g54Ok m) (cok_cons (g55Ok m) cok_nil)))
theorem g13Fn (m : Nat) : FnOk Go.Proofs.Try.prog 13 g13tp g13bp (fun {α} => g13K (g13 (α := α) m)) :=
  fn_ok (tab := tab) (h := g13h m) (fn := Go.Proofs.Try.f13) (F := fun {α} => g13K (g13 (α := α) m)) tabOk (g13Calls m) mixed (by kernel_rfl) (by kernel_rfl) (fun c hc => by
    rw [bodyOf_some hc]
    exact loopsOk_of _ (fun p hp => by rw [show loopsOf (bodyOf Go.Proofs.Try.f13) = [] by kernel_rfl] at hp; cases hp))
    (fun α ls k => g13Main (g53 m) (g54 m) (g55 m) ls k)
theorem g13Ok (m : Nat) : RowOk Go.Proofs.Try.prog 13 (fun {α} => rowK g13tp g13bp (g13K (g13 (α := α) m))) := row_of (g13Fn m)

/-! ### g19: impl.WideOf -/
def g19b {α : Type} (G_g64 : {α : Type} → Bool → (List Int) → (Bool → Option α) → Option α)  (p660 : Int) (k674 : Bool → (List Int) → Option α) : Option α :=
  let x661 : Int := IntKind.wrap .u64 p660
  cond (decide (p660 < (0 : Int)))
   (
    let x663 : Int := IntKind.wrap .u64 (0 - x661)
    let x665 : Int := IntKind.wrap .u32 x663
    let x667 : Int := IntKind.wrap .u32 (Int.fdiv x663 (2 ^ 32))
    G_g64 (decide (p660 < (0 : Int))) [x665, x667, 0, 0, 0, 0]
      (fun b668 =>
        k674 b668 [x665, x667, 0, 0, 0, 0]))
   (
    let x670 : Int := IntKind.wrap .u32 x661
    let x672 : Int := IntKind.wrap .u32 (Int.fdiv x661 (2 ^ 32))
    G_g64 (decide (p660 < (0 : Int))) [x670, x672, 0, 0, 0, 0]
      (fun b673 =>
        k674 b673 [x670, x672, 0, 0, 0, 0]))
def g19 {α : Type} (m : Nat) : Int → (Bool → (List Int) → Option α) → Option α :=
  g19b (g64 m)
def g19tp : List TP := [(.vl (.sv (.int .i64)))]
def g19bp : List BP := []
def g19K {α : Type} (G : Int → (Bool → (List Int) → Option α) → Option α) (ls : List Lf) (k : TV → List (List Seg) → List (List Seg) → Option α) : Option α :=
  G (lf ls 0).int
    (fun y0 y1 => k (.vl (.agg [(.one (.bool y0)), (.seq (.int .u32) 6 y1)])) [] [])
def g19hd (G_g64 : {α : Type} → Bool → (List Int) → (Bool → Option α) → Option α)  : Hd where
  call := fun f args Bs k => cond (Nat.beq f 64) (rowK g64tp g64bp (g64K G_g64) args Bs k) (none)
  loop := fun id st k => none
  ro := fun f => []
def g19h (m : Nat) : Hd := g19hd (g64 m)
theorem g19Main (G_g64 : {α : Type} → Bool → (List Int) → (Bool → Option α) → Option α)  {α : Type} (ls : List Lf) (k : TV → List (List Seg) → List (List Seg) → Option α) :
    g19K (g19b G_g64) ls k = evFun tab (g19hd G_g64) Go.Proofs.Try.f19 (fillT g19tp ls).1 (fillB g19bp (fillT g19tp ls).2).1 k := by kernel_rfl
theorem g19Calls (m : Nat) : (g19h m).CallsOk Go.Proofs.Try.prog := (cok_cons (g64Ok m) cok_nil)
theorem g19Fn (m : Nat) : FnOk Go.Proofs.Try.prog 19 g19tp g19bp (fun {α} => g19K (g19 (α := α) m)) :=
  fn_ok (tab := tab) (h := g19h m) (fn := Go.Proofs.Try.f19) (F := fun {α} => g19K (g19 (α := α) m)) tabOk (g19Calls m) mixed (by kernel_rfl) (by kernel_rfl) (fun c hc => by
    rw [bodyOf_some hc]
    exact loopsOk_of _ (fun p hp => by rw [show loopsOf (bodyOf Go.Proofs.Try.f19) = [] by kernel_rfl] at hp; cases hp))
    (fun α ls k => g19Main (g64 m) ls k)
theorem g19Ok (m : Nat) : RowOk Go.Proofs.Try.prog 19 (fun {α} => rowK g19tp g19bp (g19K (g19 (α := α) m))) := row_of (g19Fn m)

/-! ### g62: (*impl.calc).add -/
def g62b {α : Type} (G_g97 : {α : Type} → (List Int) → (List Int) → ((List Int) → Bool → Option α) → Option α) (G_g64 : {α : Type} → Bool → (List Int) → (Bool → Option α) → Option α) (G_g89 : {α : Type} → (List Int) → (List Int) → (Int → Option α) → Option α) (G_g99 : {α : Type} → (List Int) → (List Int) → ((List Int) → Option α) → Option α)  (q677 : Bool) (u678 : List Int) (q679 : Bool) (u680 : List Int) (q681 : Bool) (k693 : Bool → (List Int) → Bool → Option α) : Option α :=
  cond (q677 == q679)
   (
    G_g97 u678 u680
      (fun l683 b684 =>
        cond q681
        (
        G_g64 q677 l683
        (fun b685 =>
        k693 b685 l683 true))
        (
        G_g64 q677 l683
        (fun b686 =>
        k693 b686 l683 b684))))
   (
    G_g89 u678 u680
      (fun x687 =>
        cond (decide (x687 < (0 : Int)))
        (
        G_g99 u680 u678
        (fun l689 =>
        G_g64 q679 l689
        (fun b690 =>
        k693 b690 l689 q681)))
        (
        G_g99 u678 u680
        (fun l691 =>
        G_g64 q677 l691
        (fun b692 =>
        k693 b692 l691 q681)))))
def g62 {α : Type} (m : Nat) : Bool → (List Int) → Bool → (List Int) → Bool → (Bool → (List Int) → Bool → Option α) → Option α :=
  g62b (g97 m) (g64 m) (g89 m) (g99 m)
def g62tp : List TP := [(.vl (.sv (.ptr 0 0))), (.vl (.agg [(.one .bool), (.seq (.int .u32) 6)])), (.vl (.agg [(.one .bool), (.seq (.int .u32) 6)]))]
def g62bp : List BP := [(true, [(.one .bool)])]
def g62K {α : Type} (G : Bool → (List Int) → Bool → (List Int) → Bool → (Bool → (List Int) → Bool → Option α) → Option α) (ls : List Lf) (k : TV → List (List Seg) → List (List Seg) → Option α) : Option α :=
  G (lf ls 0).bool ((lf ls 1).lst (.int .u32)) (lf ls 2).bool ((lf ls 3).lst (.int .u32)) (lf ls 4).bool
    (fun y0 y1 y2 => k (.vl (.agg [(.one (.bool y0)), (.seq (.int .u32) 6 y1)])) [[(.one (.bool y2))]] [])
def g62hd (G_g97 : {α : Type} → (List Int) → (List Int) → ((List Int) → Bool → Option α) → Option α) (G_g64 : {α : Type} → Bool → (List Int) → (Bool → Option α) → Option α) (G_g89 : {α : Type} → (List Int) → (List Int) → (Int → Option α) → Option α) (G_g99 : {α : Type} → (List Int) → (List Int) → ((List Int) → Option α) → Option α)  : Hd where
  call := fun f args Bs k => cond (Nat.beq f 97) (rowK g97tp g97bp (g97K G_g97) args Bs k) (cond (Nat.beq f 64) (rowK g64tp g64bp (g64K G_g64) args Bs k) (cond (Nat.beq f 89) (rowK g89tp g89bp (g89K G_g89) args Bs k) (cond (Nat.beq f 99) (rowK g99tp g99bp (g99K G_g99) args Bs k) (none))))
  loop := fun id st k => none
  ro := fun f => []
def g62h (m : Nat) : Hd := g62hd (g97 m) (g64 m) (g89 m) (g99 m)
theorem g62Main (G_g97 : {α : Type} → (List Int) → (List Int) → ((List Int) → Bool → Option α) → Option α) (G_g64 : {α : Type} → Bool → (List Int) → (Bool → Option α) → Option α) (G_g89 : {α : Type} → (List Int) → (List Int) → (Int → Option α) → Option α) (G_g99 : {α : Type} → (List Int) → (List Int) → ((List Int) → Option α) → Option α)  {α : Type} (ls : List Lf) (k : TV → List (List Seg) → List (List Seg) → Option α) :
    g62K (g62b G_g97 G_g64 G_g89 G_g99) ls k = evFun tab (g62hd G_g97 G_g64 G_g89 G_g99) Go.Proofs.Try.f62 (fillT g62tp ls).1 (fillB g62bp (fillT g62tp ls).2).1 k := by kernel_rfl
theorem g62Calls (m : Nat) : (g62h m).CallsOk Go.Proofs.Try.prog := (cok_cons (g97Ok m) (cok_cons (g64Ok m) (cok_cons (g89Ok m) (cok_cons (g99Ok m) cok_nil))))
theorem g62Fn (m : Nat) : FnOk Go.Proofs.Try.prog 62 g62tp g62bp (fun {α} => g62K (g62 (α := α) m)) :=
  fn_ok (tab := tab) (h := g62h m) (fn := Go.Proofs.Try.f62) (F := fun {α} => g62K (g62 (α := α) m)) tabOk (g62Calls m) mixed (by kernel_rfl) (by kernel_rfl) (fun c hc => by
    rw [bodyOf_some hc]
    exact loopsOk_of _ (fun p hp => by rw [show loopsOf (bodyOf Go.Proofs.Try.f62) = [] by kernel_rfl] at hp; cases hp))
    (fun α ls k => g62Main (g97 m) (g64 m) (g89 m) (g99 m) ls k)
theorem g62Ok (m : Nat) : RowOk Go.Proofs.Try.prog 62 (fun {α} => rowK g62tp g62bp (g62K (g62 (α := α) m))) := row_of (g62Fn m)

/-! ### g57: (*impl.calc).divideNear -/
def g57b {α : Type} (G_g55 : {α : Type} → Bool → (List Int) → Bool → (List Int) → (Bool → (List Int) → Bool → (List Int) → Option α) → Option α) (G_g99 : {α : Type} → (List Int) → (List Int) → ((List Int) → Option α) → Option α) (G_g89 : {α : Type} → (List Int) → (List Int) → (Int → Option α) → Option α) (G_g19 : {α : Type} → Int → (Bool → (List Int) → Option α) → Option α) (G_g62 : {α : Type} → Bool → (List Int) → Bool → (List Int) → Bool → (Bool → (List Int) → Bool → Option α) → Option α)  (q648 : Bool) (u649 : List Int) (q650 : Bool) (u651 : List Int) (q652 : Bool) (k697 : Bool → (List Int) → Bool → Option α) : Option α :=
  G_g55 q648 u649 q650 u651
    (fun b653 l654 b655 l656 =>
      G_g99 u651 l656
        (fun l657 =>
        G_g89 l656 l657
        (fun x658 =>
        cond (decide (x658 < (0 : Int)))
        (
        k697 b653 l654 q652)
        (
        G_g19 (1 : Int)
        (fun b675 l676 =>
        G_g62 b653 l654 b675 l676 q652
        (fun b694 l695 b696 =>
        k697 b694 l695 b696))))))
def g57 {α : Type} (m : Nat) : Bool → (List Int) → Bool → (List Int) → Bool → (Bool → (List Int) → Bool → Option α) → Option α :=
  g57b (g55 m) (g99 m) (g89 m) (g19 m) (g62 m)
def g57tp : List TP := [(.vl (.sv (.ptr 0 0))), (.vl (.agg [(.one .bool), (.seq (.int .u32) 6)])), (.vl (.agg [(.one .bool), (.seq (.int .u32) 6)]))]
def g57bp : List BP := [(true, [(.one .bool)])]
def g57K {α : Type} (G : Bool → (List Int) → Bool → (List Int) → Bool → (Bool → (List Int) → Bool → Option α) → Option α) (ls : List Lf) (k : TV → List (List Seg) → List (List Seg) → Option α) : Option α :=
  G (lf ls 0).bool ((lf ls 1).lst (.int .u32)) (lf ls 2).bool ((lf ls 3).lst (.int .u32)) (lf ls 4).bool
    (fun y0 y1 y2 => k (.vl (.agg [(.one (.bool y0)), (.seq (.int .u32) 6 y1)])) [[(.one (.bool y2))]] [])
def g57hd (G_g55 : {α : Type} → Bool → (List Int) → Bool → (List Int) → (Bool → (List Int) → Bool → (List Int) → Option α) → Option α) (G_g99 : {α : Type} → (List Int) → (List Int) → ((List Int) → Option α) → Option α) (G_g89 : {α : Type} → (List Int) → (List Int) → (Int → Option α) → Option α) (G_g19 : {α : Type} → Int → (Bool → (List Int) → Option α) → Option α) (G_g62 : {α : Type} → Bool → (List Int) → Bool → (List Int) → Bool → (Bool → (List Int) → Bool → Option α) → Option α)  : Hd where
  call := fun f args Bs k => cond (Nat.beq f 55) (rowK g55tp g55bp (g55K G_g55) args Bs k) (cond (Nat.beq f 99) (rowK g99tp g99bp (g99K G_g99) args Bs k) (cond (Nat.beq f 89) (rowK g89tp g89bp (g89K G_g89) args Bs k) (cond (Nat.beq f 19) (rowK g19tp g19bp (g19K G_g19) args Bs k) (cond (Nat.beq f 62) (rowK g62tp g62bp (g62K G_g62) args Bs k) (none)))))
  loop := fun id st k => none
  ro := fun f => []
def g57h (m : Nat) : Hd := g57hd (g55 m) (g99 m) (g89 m) (g19 m) (g62 m)
theorem g57Main (G_g55 : {α : Type} → Bool → (List Int) → Bool → (List Int) → (Bool → (List Int) → Bool → (List Int) → Option α) → Option α) (G_g99 : {α : Type} → (List Int) → (List Int) → ((List Int) → Option α) → Option α) (G_g89 : {α : Type} → (List Int) → (List Int) → (Int → Option α) → Option α) (G_g19 : {α : Type} → Int → (Bool → (List Int) → Option α) → Option α) (G_g62 : {α : Type} → Bool → (List Int) → Bool → (List Int) → Bool → (Bool → (List Int) → Bool → Option α) → Option α)  {α : Type} (ls : List Lf) (k : TV → List (List Seg) → List (List Seg) → Option α) :
    g57K (g57b G_g55 G_g99 G_g89 G_g19 G_g62) ls k = evFun tab (g57hd G_g55 G_g99 G_g89 G_g19 G_g62) Go.Proofs.Try.f57 (fillT g57tp ls).1 (fillB g57bp (fillT g57tp ls).2).1 k := by kernel_rfl
theorem g57Calls (m : Nat) : (g57h m).CallsOk Go.Proofs.Try.prog := (cok_cons (g55Ok m) (cok_cons (g99Ok m) (cok_cons (g89Ok m) (cok_cons (g19Ok m) (cok_cons (g62Ok m) cok_nil)))))
theorem g57Fn (m : Nat) : FnOk Go.Proofs.Try.prog 57 g57tp g57bp (fun {α} => g57K (g57 (α := α) m)) :=
  fn_ok (tab := tab) (h := g57h m) (fn := Go.Proofs.Try.f57) (F := fun {α} => g57K (g57 (α := α) m)) tabOk (g57Calls m) mixed (by kernel_rfl) (by kernel_rfl) (fun c hc => by
    rw [bodyOf_some hc]
    exact loopsOk_of _ (fun p hp => by rw [show loopsOf (bodyOf Go.Proofs.Try.f57) = [] by kernel_rfl] at hp; cases hp))
    (fun α ls k => g57Main (g55 m) (g99 m) (g89 m) (g19 m) (g62 m) ls k)
theorem g57Ok (m : Nat) : RowOk Go.Proofs.Try.prog 57 (fun {α} => rowK g57tp g57bp (g57K (g57 (α := α) m))) := row_of (g57Fn m)

/-! ### g56: (*impl.calc).told -/
def g56b {α : Type}   (q701 : Bool) (u702 : List Int) (q703 : Bool) (k704 : Bool → (List Int) → Int → Option α) : Option α :=
  cond q703
   (
    k704 false [0, 0, 0, 0, 0, 0] (3 : Int))
   (
    k704 q701 u702 (0 : Int))
def g56 {α : Type} (m : Nat) : Bool → (List Int) → Bool → (Bool → (List Int) → Int → Option α) → Option α :=
  g56b
def g56tp : List TP := [(.vl (.sv (.ptr 0 0))), (.vl (.agg [(.one .bool), (.seq (.int .u32) 6)]))]
def g56bp : List BP := [(false, [(.one .bool)])]
def g56K {α : Type} (G : Bool → (List Int) → Bool → (Bool → (List Int) → Int → Option α) → Option α) (ls : List Lf) (k : TV → List (List Seg) → List (List Seg) → Option α) : Option α :=
  G (lf ls 0).bool ((lf ls 1).lst (.int .u32)) (lf ls 2).bool
    (fun y0 y1 y2 => k (.tup [(.agg [(.one (.bool y0)), (.seq (.int .u32) 6 y1)]), (.sv (.int .i64 y2))]) [[(.one (.bool (lf ls 2).bool))]] [])
def g56hd   : Hd where
  call := fun f args Bs k => none
  loop := fun id st k => none
  ro := fun f => []
def g56h (m : Nat) : Hd := g56hd
theorem g56Main   {α : Type} (ls : List Lf) (k : TV → List (List Seg) → List (List Seg) → Option α) :
    g56K (g56b) ls k = evFun tab (g56hd) Go.Proofs.Try.f56 (fillT g56tp ls).1 (fillB g56bp (fillT g56tp ls).2).1 k := by kernel_rfl
theorem g56Calls (m : Nat) : (g56h m).CallsOk Go.Proofs.Try.prog := cok_nil
theorem g56Fn (m : Nat) : FnOk Go.Proofs.Try.prog 56 g56tp g56bp (fun {α} => g56K (g56 (α := α) m)) :=
  fn_ok (tab := tab) (h := g56h m) (fn := Go.Proofs.Try.f56) (F := fun {α} => g56K (g56 (α := α) m)) tabOk (g56Calls m) mixed (by kernel_rfl) (by kernel_rfl) (fun c hc => by
    rw [bodyOf_some hc]
    exact loopsOk_of _ (fun p hp => by rw [show loopsOf (bodyOf Go.Proofs.Try.f56) = [] by kernel_rfl] at hp; cases hp))
    (fun α ls k => g56Main ls k)
theorem g56Ok (m : Nat) : RowOk Go.Proofs.Try.prog 56 (fun {α} => rowK g56tp g56bp (g56K (g56 (α := α) m))) := row_of (g56Fn m)

/-! ### g14: impl.DivNear -/
def g14b {α : Type} (G_g53 : {α : Type} → Bool → (List Int) → (Bool → Option α) → Option α) (G_g54 : {α : Type} → Bool → (List Int) → (Int → Option α) → Option α) (G_g57 : {α : Type} → Bool → (List Int) → Bool → (List Int) → Bool → (Bool → (List Int) → Bool → Option α) → Option α) (G_g56 : {α : Type} → Bool → (List Int) → Bool → (Bool → (List Int) → Int → Option α) → Option α)  (q638 : Bool) (u639 : List Int) (q640 : Bool) (u641 : List Int) (k708 : Bool → (List Int) → Int → Option α) : Option α :=
  G_g53 q638 u639
    (fun b642 =>
      cond (!b642)
       (
        k708 false [0, 0, 0, 0, 0, 0] (1 : Int))
       (
        G_g53 q640 u641
        (fun b644 =>
        cond (!b644)
        (
        k708 false [0, 0, 0, 0, 0, 0] (1 : Int))
        (
        G_g54 q640 u641
        (fun x646 =>
        cond (x646 == (0 : Int))
        (
        k708 false [0, 0, 0, 0, 0, 0] (4 : Int))
        (
        G_g57 q638 u639 q640 u641 false
        (fun b698 l699 b700 =>
        G_g56 b698 l699 b700
        (fun b705 l706 x707 =>
        k708 b705 l706 x707))))))))
def g14 {α : Type} (m : Nat) : Bool → (List Int) → Bool → (List Int) → (Bool → (List Int) → Int → Option α) → Option α :=
  g14b (g53 m) (g54 m) (g57 m) (g56 m)
def g14tp : List TP := [(.vl (.agg [(.one .bool), (.seq (.int .u32) 6)])), (.vl (.agg [(.one .bool), (.seq (.int .u32) 6)]))]
def g14bp : List BP := []
def g14K {α : Type} (G : Bool → (List Int) → Bool → (List Int) → (Bool → (List Int) → Int → Option α) → Option α) (ls : List Lf) (k : TV → List (List Seg) → List (List Seg) → Option α) : Option α :=
  G (lf ls 0).bool ((lf ls 1).lst (.int .u32)) (lf ls 2).bool ((lf ls 3).lst (.int .u32))
    (fun y0 y1 y2 => k (.tup [(.agg [(.one (.bool y0)), (.seq (.int .u32) 6 y1)]), (.sv (.int .i64 y2))]) [] [])
def g14hd (G_g53 : {α : Type} → Bool → (List Int) → (Bool → Option α) → Option α) (G_g54 : {α : Type} → Bool → (List Int) → (Int → Option α) → Option α) (G_g57 : {α : Type} → Bool → (List Int) → Bool → (List Int) → Bool → (Bool → (List Int) → Bool → Option α) → Option α) (G_g56 : {α : Type} → Bool → (List Int) → Bool → (Bool → (List Int) → Int → Option α) → Option α)  : Hd where
  call := fun f args Bs k => cond (Nat.beq f 53) (rowK g53tp g53bp (g53K G_g53) args Bs k) (cond (Nat.beq f 54) (rowK g54tp g54bp (g54K G_g54) args Bs k) (cond (Nat.beq f 57) (rowK g57tp g57bp (g57K G_g57) args Bs k) (cond (Nat.beq f 56) (rowK g56tp g56bp (g56K G_g56) args Bs k) (none))))
  loop := fun id st k => none
  ro := fun f => cond (Nat.beq f 56) [0] ([])
def g14h (m : Nat) : Hd := g14hd (g53 m) (g54 m) (g57 m) (g56 m)
theorem g14Main (G_g53 : {α : Type} → Bool → (List Int) → (Bool → Option α) → Option α) (G_g54 : {α : Type} → Bool → (List Int) → (Int → Option α) → Option α) (G_g57 : {α : Type} → Bool → (List Int) → Bool → (List Int) → Bool → (Bool → (List Int) → Bool → Option α) → Option α) (G_g56 : {α : Type} → Bool → (List Int) → Bool → (Bool → (List Int) → Int → Option α) → Option α)  {α : Type} (ls : List Lf) (k : TV → List (List Seg) → List (List Seg) → Option α) :
    g14K (g14b G_g53 G_g54 G_g57 G_g56) ls k = evFun tab (g14hd G_g53 G_g54 G_g57 G_g56) Go.Proofs.Try.f14 (fillT g14tp ls).1 (fillB g14bp (fillT g14tp ls).2).1 k := by kernel_rfl
theorem g14Calls (m : Nat) : (g14h m).CallsOk Go.Proofs.Try.prog := (cok_cons (g53Ok m) (cok_cons (g54Ok m) (cok_cons (g57Ok m) (cok_cons (g56Ok m) cok_nil))))
theorem g14Fn (m : Nat) : FnOk Go.Proofs.Try.prog 14 g14tp g14bp (fun {α} => g14K (g14 (α := α) m)) :=
  fn_ok (tab := tab) (h := g14h m) (fn := Go.Proofs.Try.f14) (F := fun {α} => g14K (g14 (α := α) m)) tabOk (g14Calls m) mixed (by kernel_rfl) (by kernel_rfl) (fun c hc => by
    rw [bodyOf_some hc]
    exact loopsOk_of _ (fun p hp => by rw [show loopsOf (bodyOf Go.Proofs.Try.f14) = [] by kernel_rfl] at hp; cases hp))
    (fun α ls k => g14Main (g53 m) (g54 m) (g57 m) (g56 m) ls k)
theorem g14Ok (m : Nat) : RowOk Go.Proofs.Try.prog 14 (fun {α} => rowK g14tp g14bp (g14K (g14 (α := α) m))) := row_of (g14Fn m)

/-! ### g58: spec.l01Ok -/
def g58b {α : Type}   (q723 : Bool) (u724 : List Int) (k727 : Bool → Option α) : Option α :=
  cond (!q723)
   (
    k727 true)
   (
    k727 (!(eqLI u724 [0, 0, 0, 0, 0, 0])))
def g58 {α : Type} (m : Nat) : Bool → (List Int) → (Bool → Option α) → Option α :=
  g58b
def g58tp : List TP := [(.vl (.sv (.ptr 0 0)))]
def g58bp : List BP := [(false, [(.one .bool), (.seq (.int .u32) 6)])]
def g58K {α : Type} (G : Bool → (List Int) → (Bool → Option α) → Option α) (ls : List Lf) (k : TV → List (List Seg) → List (List Seg) → Option α) : Option α :=
  G (lf ls 0).bool ((lf ls 1).lst (.int .u32))
    (fun y0 => k (.vl (.sv (.bool y0))) [[(.one (.bool (lf ls 0).bool)), (.seq (.int .u32) 6 ((lf ls 1).lst (.int .u32)))]] [])
def g58hd   : Hd where
  call := fun f args Bs k => none
  loop := fun id st k => none
  ro := fun f => []
def g58h (m : Nat) : Hd := g58hd
theorem g58Main   {α : Type} (ls : List Lf) (k : TV → List (List Seg) → List (List Seg) → Option α) :
    g58K (g58b) ls k = evFun tab (g58hd) Go.Proofs.Try.f58 (fillT g58tp ls).1 (fillB g58bp (fillT g58tp ls).2).1 k := by kernel_rfl
theorem g58Calls (m : Nat) : (g58h m).CallsOk Go.Proofs.Try.prog := cok_nil
theorem g58Fn (m : Nat) : FnOk Go.Proofs.Try.prog 58 g58tp g58bp (fun {α} => g58K (g58 (α := α) m)) :=
  fn_ok (tab := tab) (h := g58h m) (fn := Go.Proofs.Try.f58) (F := fun {α} => g58K (g58 (α := α) m)) tabOk (g58Calls m) mixed (by kernel_rfl) (by kernel_rfl) (fun c hc => by
    rw [bodyOf_some hc]
    exact loopsOk_of _ (fun p hp => by rw [show loopsOf (bodyOf Go.Proofs.Try.f58) = [] by kernel_rfl] at hp; cases hp))
    (fun α ls k => g58Main ls k)
theorem g58Ok (m : Nat) : RowOk Go.Proofs.Try.prog 58 (fun {α} => rowK g58tp g58bp (g58K (g58 (α := α) m))) := row_of (g58Fn m)

/-! ### g59: spec.l01Sign -/
def g59b {α : Type}   (q732 : Bool) (u733 : List Int) (k735 : Int → Option α) : Option α :=
  cond q732
   (
    k735 (-1 : Int))
   (
    cond (eqLI u733 [0, 0, 0, 0, 0, 0])
     (
      k735 (0 : Int))
     (
      k735 (1 : Int)))
def g59 {α : Type} (m : Nat) : Bool → (List Int) → (Int → Option α) → Option α :=
  g59b
def g59tp : List TP := [(.vl (.sv (.ptr 0 0)))]
def g59bp : List BP := [(false, [(.one .bool), (.seq (.int .u32) 6)])]
def g59K {α : Type} (G : Bool → (List Int) → (Int → Option α) → Option α) (ls : List Lf) (k : TV → List (List Seg) → List (List Seg) → Option α) : Option α :=
  G (lf ls 0).bool ((lf ls 1).lst (.int .u32))
    (fun y0 => k (.vl (.sv (.int .i64 y0))) [[(.one (.bool (lf ls 0).bool)), (.seq (.int .u32) 6 ((lf ls 1).lst (.int .u32)))]] [])
def g59hd   : Hd where
  call := fun f args Bs k => none
  loop := fun id st k => none
  ro := fun f => []
def g59h (m : Nat) : Hd := g59hd
theorem g59Main   {α : Type} (ls : List Lf) (k : TV → List (List Seg) → List (List Seg) → Option α) :
    g59K (g59b) ls k = evFun tab (g59hd) Go.Proofs.Try.f59 (fillT g59tp ls).1 (fillB g59bp (fillT g59tp ls).2).1 k := by kernel_rfl
theorem g59Calls (m : Nat) : (g59h m).CallsOk Go.Proofs.Try.prog := cok_nil
theorem g59Fn (m : Nat) : FnOk Go.Proofs.Try.prog 59 g59tp g59bp (fun {α} => g59K (g59 (α := α) m)) :=
  fn_ok (tab := tab) (h := g59h m) (fn := Go.Proofs.Try.f59) (F := fun {α} => g59K (g59 (α := α) m)) tabOk (g59Calls m) mixed (by kernel_rfl) (by kernel_rfl) (fun c hc => by
    rw [bodyOf_some hc]
    exact loopsOk_of _ (fun p hp => by rw [show loopsOf (bodyOf Go.Proofs.Try.f59) = [] by kernel_rfl] at hp; cases hp))
    (fun α ls k => g59Main ls k)
theorem g59Ok (m : Nat) : RowOk Go.Proofs.Try.prog 59 (fun {α} => rowK g59tp g59bp (g59K (g59 (α := α) m))) := row_of (g59Fn m)

/-! ### g116: spec.l01Bits -/
def g116l2b {α : Type}   (v752 : Int) (a755 : List Int) (k759 : Int → Option α) (r760 : Int → Int → Option α) (v753 : Int) (v754 : Int) : Option α :=
  cond (decide (v754 > (0 : Int)))
   (
    r760 (IntKind.wrap .i64 (v753 + (1 : Int))) (Int.fdiv v754 (2 ^ 1)))
   (
    k759 v753)
def g116l2 {α : Type}   (v752 : Int) (a755 : List Int) (k759 : Int → Option α) : Nat → Int → Int → Option α
  | 0 => fun _ _ => none
  | m + 1 => fun v753 v754 => g116l2b v752 a755 k759 (g116l2 v752 a755 k759 m) v753 v754
def g116l2M {α : Type} (m : Nat) : Int → (List Int) → (Int → Option α) → Int → Int → Option α :=
  fun v752 a755 k759 v753 v754 => g116l2 v752 a755 k759 m v753 v754
def g116l2D : LoopD := { n := 31, low := [0], sl := [3, 4, 5], bl := [0], tp := [(.vl (.sv (.int .i64))), (.vl (.sv (.int .i64))), (.vl (.sv (.int .u32)))], bp := [(false, [(.seq (.int .u32) 6)])], xs := [(4, [3, 4])] }
def g116l2K {α : Type} (L : Int → (List Int) → (Int → Option α) → Int → Int → Option α) (ls : List Lf) (k : Ex → St → Option α) : Option α :=
  L (lf ls 0).int ((lf ls 3).lst (.int .u32))
    (fun y1 => k .normal (mkSt 31 [3, 4] [(.vl (.sv (.int .i64 (lf ls 0).int))), (.vl (.sv (.int .i64 y1)))] [0] [(false, [(.seq (.int .u32) 6 ((lf ls 3).lst (.int .u32)))])]))
    (lf ls 1).int (lf ls 2).int
def g116l0b {α : Type}  (L_g116l2 : {α : Type} → Int → (List Int) → (Int → Option α) → Int → Int → Option α) (a746 : List Int) (k764 : Int → Option α) (k765 : Option α) (r766 : Int → Option α) (v745 : Int) : Option α :=
  cond (decide (v745 ≥ (0 : Int)))
   (
    if 0 ≤ v745 ∧ v745 < (6 : Nat) then
      if v745.toNat < 6 then
        cond ((List.getD a746 v745.toNat 0) == (0 : Int))
        (
        r766 (IntKind.wrap .i64 (v745 - (1 : Int))))
        (
        if 0 ≤ v745 ∧ v745 < (6 : Nat) then
        if v745.toNat < 6 then
        L_g116l2 v745 a746
        (fun x761 =>
        k764 (IntKind.wrap .i64 ((IntKind.wrap .i64 ((32 : Int) * v745)) + x761)))
        (0 : Int) (List.getD a746 v745.toNat 0)
        else
        none
        else
        none)
      else
        none
    else
      none)
   (
    k765)
def g116l0 {α : Type}  (L_g116l2 : {α : Type} → Int → (List Int) → (Int → Option α) → Int → Int → Option α) (a746 : List Int) (k764 : Int → Option α) (k765 : Option α) : Nat → Int → Option α
  | 0 => fun _ => none
  | m + 1 => fun v745 => g116l0b L_g116l2 a746 k764 k765 (g116l0 L_g116l2 a746 k764 k765 m) v745
def g116l0M {α : Type} (m : Nat) : (List Int) → (Int → Option α) → (Option α) → Int → Option α :=
  fun a746 k764 k765 v745 => g116l0 (g116l2M m) a746 k764 k765 m v745
def g116l0D : LoopD := { n := 31, low := [0], sl := [0, 3], bl := [0], tp := [(.vl (.sv (.ptr 0 0))), (.vl (.sv (.int .i64)))], bp := [(false, [(.seq (.int .u32) 6)])], xs := [(1, [2]), (2, [])] }
def g116l0K {α : Type} (L : (List Int) → (Int → Option α) → (Option α) → Int → Option α) (ls : List Lf) (k : Ex → St → Option α) : Option α :=
  L ((lf ls 1).lst (.int .u32))
    (fun y0 => k .ret (mkSt 31 [2] [(.vl (.sv (.int .i64 y0)))] [0] [(false, [(.seq (.int .u32) 6 ((lf ls 1).lst (.int .u32)))])]))
    (k .normal (mkSt 31 [] [] [0] [(false, [(.seq (.int .u32) 6 ((lf ls 1).lst (.int .u32)))])]))
    (lf ls 0).int
def g116b {α : Type}  (L_g116l2 : {α : Type} → Int → (List Int) → (Int → Option α) → Int → Int → Option α) (L_g116l0 : {α : Type} → (List Int) → (Int → Option α) → (Option α) → Int → Option α) (u744 : List Int) (k768 : Int → Option α) : Option α :=
  L_g116l0 u744
    (fun x767 =>
      k768 x767)
    (
      k768 (0 : Int))
    (5 : Int)
def g116 {α : Type} (m : Nat) : (List Int) → (Int → Option α) → Option α :=
  g116b (g116l2M m) (g116l0M m)
def g116tp : List TP := [(.vl (.sv (.ptr 0 0)))]
def g116bp : List BP := [(false, [(.seq (.int .u32) 6)])]
def g116K {α : Type} (G : (List Int) → (Int → Option α) → Option α) (ls : List Lf) (k : TV → List (List Seg) → List (List Seg) → Option α) : Option α :=
  G ((lf ls 0).lst (.int .u32))
    (fun y0 => k (.vl (.sv (.int .i64 y0))) [[(.seq (.int .u32) 6 ((lf ls 0).lst (.int .u32)))]] [])
def g116hd  (L_g116l2 : {α : Type} → Int → (List Int) → (Int → Option α) → Int → Int → Option α) (L_g116l0 : {α : Type} → (List Int) → (Int → Option α) → (Option α) → Int → Option α) : Hd where
  call := fun f args Bs k => none
  loop := fun id st k => cond (Nat.beq id 2) (loopH g116l2D (g116l2K L_g116l2) st k) (cond (Nat.beq id 0) (loopH g116l0D (g116l0K L_g116l0) st k) (none))
  ro := fun f => []
def g116h (m : Nat) : Hd := g116hd (g116l2M m) (g116l0M m)
theorem g116l2Step  (L_g116l2 : {α : Type} → Int → (List Int) → (Int → Option α) → Int → Int → Option α) (L_g116l0 : {α : Type} → (List Int) → (Int → Option α) → (Option α) → Int → Option α) {α : Type} (L : Int → (List Int) → (Int → Option α) → Int → Int → Option α) (ls : List Lf) (k : Ex → St → Option α) :
    g116l2K (fun v752 a755 k759 v753 v754 => g116l2b v752 a755 k759 (L v752 a755 k759) v753 v754) ls k = ev tab (g116hd L_g116l2 L_g116l0) (bodyAt Go.Proofs.Try.f116 2) (atHead g116l2D ls) (loopK g116l2D 2 (loopH g116l2D (g116l2K L)) k) := by kernel_rfl
theorem g116l0Step  (L_g116l2 : {α : Type} → Int → (List Int) → (Int → Option α) → Int → Int → Option α) (L_g116l0 : {α : Type} → (List Int) → (Int → Option α) → (Option α) → Int → Option α) {α : Type} (L : (List Int) → (Int → Option α) → (Option α) → Int → Option α) (ls : List Lf) (k : Ex → St → Option α) :
    g116l0K (fun a746 k764 k765 v745 => g116l0b L_g116l2 a746 k764 k765 (L a746 k764 k765) v745) ls k = ev tab (g116hd L_g116l2 L_g116l0) (bodyAt Go.Proofs.Try.f116 0) (atHead g116l0D ls) (loopK g116l0D 0 (loopH g116l0D (g116l0K L)) k) := by kernel_rfl
theorem g116Main  (L_g116l2 : {α : Type} → Int → (List Int) → (Int → Option α) → Int → Int → Option α) (L_g116l0 : {α : Type} → (List Int) → (Int → Option α) → (Option α) → Int → Option α) {α : Type} (ls : List Lf) (k : TV → List (List Seg) → List (List Seg) → Option α) :
    g116K (g116b L_g116l2 L_g116l0) ls k = evFun tab (g116hd L_g116l2 L_g116l0) Go.Proofs.Try.f116 (fillT g116tp ls).1 (fillB g116bp (fillT g116tp ls).2).1 k := by kernel_rfl
theorem g116Calls (m : Nat) : (g116h m).CallsOk Go.Proofs.Try.prog := cok_nil
theorem g116l2Ok (m : Nat) (α : Type) (st : St) (k : Ex → St → Option α) (r : α) (h : (g116h m).loop 2 st k = some r) :
    ∃ e st', k e st' = some r ∧ CodeS Go.Proofs.Try.prog (.block 2 (.loop (bodyAt Go.Proofs.Try.f116 2))) st e st' :=
  loop_ok (tab := tab) (h := g116h m) (F := fun n ls k => g116l2K (fun v752 a755 k759 v753 v754 => g116l2 v752 a755 k759 n v753 v754) ls k) tabOk (g116Calls m) mixed (loopsOk_of _ (fun p hp => by rw [show loopsOf (bodyAt Go.Proofs.Try.f116 2) = [] by kernel_rfl] at hp; cases hp))
    (fun _ _ => rfl) (fun n ls k => g116l2Step (g116l2M m) (g116l0M m) (fun v752 a755 k759 => g116l2 v752 a755 k759 n) ls k) (n := m) h
theorem g116l0Ok (m : Nat) (α : Type) (st : St) (k : Ex → St → Option α) (r : α) (h : (g116h m).loop 0 st k = some r) :
    ∃ e st', k e st' = some r ∧ CodeS Go.Proofs.Try.prog (.block 0 (.loop (bodyAt Go.Proofs.Try.f116 0))) st e st' :=
  loop_ok (tab := tab) (h := g116h m) (F := fun n ls k => g116l0K (fun a746 k764 k765 v745 => g116l0 (g116l2M m) a746 k764 k765 n v745) ls k) tabOk (g116Calls m) mixed (loopsOk_of _ (fun p hp => by
    rw [show loopsOf (bodyAt Go.Proofs.Try.f116 0) = [(2, bodyAt Go.Proofs.Try.f116 2)] by kernel_rfl] at hp
    simp only [List.mem_cons, List.not_mem_nil, or_false] at hp
    rcases hp with rfl
    exact g116l2Ok m))
    (fun _ _ => rfl) (fun n ls k => g116l0Step (g116l2M m) (g116l0M m) (fun a746 k764 k765 => g116l0 (g116l2M m) a746 k764 k765 n) ls k) (n := m) h
theorem g116Fn (m : Nat) : FnOk Go.Proofs.Try.prog 116 g116tp g116bp (fun {α} => g116K (g116 (α := α) m)) :=
  fn_ok (tab := tab) (h := g116h m) (fn := Go.Proofs.Try.f116) (F := fun {α} => g116K (g116 (α := α) m)) tabOk (g116Calls m) mixed (by kernel_rfl) (by kernel_rfl) (fun c hc => by
    rw [bodyOf_some hc]
    exact loopsOk_of _ (fun p hp => by
    rw [show loopsOf (bodyOf Go.Proofs.Try.f116) = [(0, bodyAt Go.Proofs.Try.f116 0)] by kernel_rfl] at hp
    simp only [List.mem_cons, List.not_mem_nil, or_false] at hp
    rcases hp with rfl
    exact g116l0Ok m))
    (fun α ls k => g116Main (g116l2M m) (g116l0M m) ls k)
theorem g116Ok (m : Nat) : RowOk Go.Proofs.Try.prog 116 (fun {α} => rowK g116tp g116bp (g116K (g116 (α := α) m))) := row_of (g116Fn m)

/-! ### g102: spec.l01Minus -/
def g102l0b {α : Type}   (a817 : List Int) (a818 : List Int) (a819 : List Int) (k836 : (List Int) → Option α) (r837 : Int → Int → (List Int) → Option α) (v815 : Int) (v816 : Int) (a820 : List Int) : Option α :=
  cond (decide (v816 < (6 : Int)))
   (
    if 0 ≤ v816 ∧ v816 < (6 : Nat) then
      if v816.toNat < 6 then
        if 0 ≤ v816 ∧ v816 < (6 : Nat) then
        if v816.toNat < 6 then
        let x827 : Int := IntKind.wrap .i64 ((IntKind.wrap .i64 ((IntKind.wrap .i64 (List.getD a817 v816.toNat 0)) - (IntKind.wrap .i64 (List.getD a818 v816.toNat 0)))) - v815)
        cond (decide (x827 < (0 : Int)))
        (
        if 0 ≤ v816 ∧ v816 < (6 : Nat) then
        if v816.toNat < 6 then
        r837 (1 : Int) (IntKind.wrap .i64 (v816 + (1 : Int))) (List.set a820 (v816.toNat) (IntKind.wrap .u32 (IntKind.wrap .i64 (x827 + (4294967296 : Int)))))
        else
        none
        else
        none)
        (
        if 0 ≤ v816 ∧ v816 < (6 : Nat) then
        if v816.toNat < 6 then
        r837 (0 : Int) (IntKind.wrap .i64 (v816 + (1 : Int))) (List.set a820 (v816.toNat) (IntKind.wrap .u32 x827))
        else
        none
        else
        none)
        else
        none
        else
        none
      else
        none
    else
      none)
   (
    k836 a820)
def g102l0 {α : Type}   (a817 : List Int) (a818 : List Int) (a819 : List Int) (k836 : (List Int) → Option α) : Nat → Int → Int → (List Int) → Option α
  | 0 => fun _ _ _ => none
  | m + 1 => fun v815 v816 a820 => g102l0b a817 a818 a819 k836 (g102l0 a817 a818 a819 k836 m) v815 v816 a820
def g102l0M {α : Type} (m : Nat) : (List Int) → (List Int) → (List Int) → ((List Int) → Option α) → Int → Int → (List Int) → Option α :=
  fun a817 a818 a819 k836 v815 v816 a820 => g102l0 a817 a818 a819 k836 m v815 v816 a820
def g102l0D : LoopD := { n := 38, low := [0, 1], sl := [0, 1, 4, 5, 6, 7], bl := [0, 1, 1000002, 1000003], tp := [(.vl (.sv (.ptr 0 0))), (.vl (.sv (.ptr 1 0))), (.vl (.sv (.ptr 1000002 0))), (.vl (.sv (.ptr 1000003 0))), (.vl (.sv (.int .i64))), (.vl (.sv (.int .i64)))], bp := [(false, [(.seq (.int .u32) 6)]), (false, [(.seq (.int .u32) 6)]), (true, [(.seq (.int .u32) 6)]), (true, [(.seq (.int .u32) 6)])], xs := [(2, [4, 5])] }
def g102l0K {α : Type} (L : (List Int) → (List Int) → (List Int) → ((List Int) → Option α) → Int → Int → (List Int) → Option α) (ls : List Lf) (k : Ex → St → Option α) : Option α :=
  L ((lf ls 2).lst (.int .u32)) ((lf ls 3).lst (.int .u32)) ((lf ls 4).lst (.int .u32))
    (fun y3 => k .normal (mkSt 38 [4, 5] [(.vl (.sv (.ptr 1000002 0))), (.vl (.sv (.ptr 1000003 0)))] [0, 1, 1000002, 1000003] [(false, [(.seq (.int .u32) 6 ((lf ls 2).lst (.int .u32)))]), (false, [(.seq (.int .u32) 6 ((lf ls 3).lst (.int .u32)))]), (true, [(.seq (.int .u32) 6 ((lf ls 4).lst (.int .u32)))]), (true, [(.seq (.int .u32) 6 y3)])]))
    (lf ls 0).int (lf ls 1).int ((lf ls 5).lst (.int .u32))
def g102b {α : Type}  (L_g102l0 : {α : Type} → (List Int) → (List Int) → (List Int) → ((List Int) → Option α) → Int → Int → (List Int) → Option α) (u813 : List Int) (u814 : List Int) (k839 : (List Int) → Option α) : Option α :=
  L_g102l0 u813 u814 [0, 0, 0, 0, 0, 0]
    (fun l838 =>
      k839 l838)
    (0 : Int) (0 : Int) [0, 0, 0, 0, 0, 0]
def g102 {α : Type} (m : Nat) : (List Int) → (List Int) → ((List Int) → Option α) → Option α :=
  g102b (g102l0M m)
def g102tp : List TP := [(.vl (.sv (.ptr 0 0))), (.vl (.sv (.ptr 1 0)))]
def g102bp : List BP := [(false, [(.seq (.int .u32) 6)]), (false, [(.seq (.int .u32) 6)])]
def g102K {α : Type} (G : (List Int) → (List Int) → ((List Int) → Option α) → Option α) (ls : List Lf) (k : TV → List (List Seg) → List (List Seg) → Option α) : Option α :=
  G ((lf ls 0).lst (.int .u32)) ((lf ls 1).lst (.int .u32))
    (fun y0 => k (.vl (.agg [(.seq (.int .u32) 6 y0)])) [[(.seq (.int .u32) 6 ((lf ls 0).lst (.int .u32)))], [(.seq (.int .u32) 6 ((lf ls 1).lst (.int .u32)))]] [])
def g102hd  (L_g102l0 : {α : Type} → (List Int) → (List Int) → (List Int) → ((List Int) → Option α) → Int → Int → (List Int) → Option α) : Hd where
  call := fun f args Bs k => none
  loop := fun id st k => cond (Nat.beq id 0) (loopH g102l0D (g102l0K L_g102l0) st k) (none)
  ro := fun f => []
def g102h (m : Nat) : Hd := g102hd (g102l0M m)
theorem g102l0Step  (L_g102l0 : {α : Type} → (List Int) → (List Int) → (List Int) → ((List Int) → Option α) → Int → Int → (List Int) → Option α) {α : Type} (L : (List Int) → (List Int) → (List Int) → ((List Int) → Option α) → Int → Int → (List Int) → Option α) (ls : List Lf) (k : Ex → St → Option α) :
    g102l0K (fun a817 a818 a819 k836 v815 v816 a820 => g102l0b a817 a818 a819 k836 (L a817 a818 a819 k836) v815 v816 a820) ls k = ev tab (g102hd L_g102l0) (bodyAt Go.Proofs.Try.f102 0) (atHead g102l0D ls) (loopK g102l0D 0 (loopH g102l0D (g102l0K L)) k) := by kernel_rfl
theorem g102Main  (L_g102l0 : {α : Type} → (List Int) → (List Int) → (List Int) → ((List Int) → Option α) → Int → Int → (List Int) → Option α) {α : Type} (ls : List Lf) (k : TV → List (List Seg) → List (List Seg) → Option α) :
    g102K (g102b L_g102l0) ls k = evFun tab (g102hd L_g102l0) Go.Proofs.Try.f102 (fillT g102tp ls).1 (fillB g102bp (fillT g102tp ls).2).1 k := by kernel_rfl
theorem g102Calls (m : Nat) : (g102h m).CallsOk Go.Proofs.Try.prog := cok_nil
theorem g102l0Ok (m : Nat) (α : Type) (st : St) (k : Ex → St → Option α) (r : α) (h : (g102h m).loop 0 st k = some r) :
    ∃ e st', k e st' = some r ∧ CodeS Go.Proofs.Try.prog (.block 0 (.loop (bodyAt Go.Proofs.Try.f102 0))) st e st' :=
  loop_ok (tab := tab) (h := g102h m) (F := fun n ls k => g102l0K (fun a817 a818 a819 k836 v815 v816 a820 => g102l0 a817 a818 a819 k836 n v815 v816 a820) ls k) tabOk (g102Calls m) mixed (loopsOk_of _ (fun p hp => by rw [show loopsOf (bodyAt Go.Proofs.Try.f102 0) = [] by kernel_rfl] at hp; cases hp))
    (fun _ _ => rfl) (fun n ls k => g102l0Step (g102l0M m) (fun a817 a818 a819 k836 => g102l0 a817 a818 a819 k836 n) ls k) (n := m) h
theorem g102Fn (m : Nat) : FnOk Go.Proofs.Try.prog 102 g102tp g102bp (fun {α} => g102K (g102 (α := α) m)) :=
  fn_ok (tab := tab) (h := g102h m) (fn := Go.Proofs.Try.f102) (F := fun {α} => g102K (g102 (α := α) m)) tabOk (g102Calls m) mixed (by kernel_rfl) (by kernel_rfl) (fun c hc => by
    rw [bodyOf_some hc]
    exact loopsOk_of _ (fun p hp => by
    rw [show loopsOf (bodyOf Go.Proofs.Try.f102) = [(0, bodyAt Go.Proofs.Try.f102 0)] by kernel_rfl] at hp
    simp only [List.mem_cons, List.not_mem_nil, or_false] at hp
    rcases hp with rfl
    exact g102l0Ok m))
    (fun α ls k => g102Main (g102l0M m) ls k)
theorem g102Ok (m : Nat) : RowOk Go.Proofs.Try.prog 102 (fun {α} => rowK g102tp g102bp (g102K (g102 (α := α) m))) := row_of (g102Fn m)

/-! ### g105: spec.l01Cmp -/
def g105l0b {α : Type}   (a852 : List Int) (a853 : List Int) (k862 : Int → Option α) (k863 : Option α) (r864 : Int → Option α) (v851 : Int) : Option α :=
  cond (decide (v851 ≥ (0 : Int)))
   (
    if 0 ≤ v851 ∧ v851 < (6 : Nat) then
      if v851.toNat < 6 then
        if 0 ≤ v851 ∧ v851 < (6 : Nat) then
        if v851.toNat < 6 then
        cond (decide ((List.getD a852 v851.toNat 0) < (List.getD a853 v851.toNat 0)))
        (
        k862 (-1 : Int))
        (
        if 0 ≤ v851 ∧ v851 < (6 : Nat) then
        if v851.toNat < 6 then
        if 0 ≤ v851 ∧ v851 < (6 : Nat) then
        if v851.toNat < 6 then
        cond (decide ((List.getD a852 v851.toNat 0) > (List.getD a853 v851.toNat 0)))
        (
        k862 (1 : Int))
        (
        r864 (IntKind.wrap .i64 (v851 - (1 : Int))))
        else
        none
        else
        none
        else
        none
        else
        none)
        else
        none
        else
        none
      else
        none
    else
      none)
   (
    k863)
def g105l0 {α : Type}   (a852 : List Int) (a853 : List Int) (k862 : Int → Option α) (k863 : Option α) : Nat → Int → Option α
  | 0 => fun _ => none
  | m + 1 => fun v851 => g105l0b a852 a853 k862 k863 (g105l0 a852 a853 k862 k863 m) v851
def g105l0M {α : Type} (m : Nat) : (List Int) → (List Int) → (Int → Option α) → (Option α) → Int → Option α :=
  fun a852 a853 k862 k863 v851 => g105l0 a852 a853 k862 k863 m v851
def g105l0D : LoopD := { n := 32, low := [0, 1], sl := [0, 1, 5], bl := [0, 1], tp := [(.vl (.sv (.ptr 0 0))), (.vl (.sv (.ptr 1 0))), (.vl (.sv (.int .i64)))], bp := [(false, [(.seq (.int .u32) 6)]), (false, [(.seq (.int .u32) 6)])], xs := [(1, [4]), (2, [])] }
def g105l0K {α : Type} (L : (List Int) → (List Int) → (Int → Option α) → (Option α) → Int → Option α) (ls : List Lf) (k : Ex → St → Option α) : Option α :=
  L ((lf ls 1).lst (.int .u32)) ((lf ls 2).lst (.int .u32))
    (fun y0 => k .ret (mkSt 32 [4] [(.vl (.sv (.int .i64 y0)))] [0, 1] [(false, [(.seq (.int .u32) 6 ((lf ls 1).lst (.int .u32)))]), (false, [(.seq (.int .u32) 6 ((lf ls 2).lst (.int .u32)))])]))
    (k .normal (mkSt 32 [] [] [0, 1] [(false, [(.seq (.int .u32) 6 ((lf ls 1).lst (.int .u32)))]), (false, [(.seq (.int .u32) 6 ((lf ls 2).lst (.int .u32)))])]))
    (lf ls 0).int
def g105b {α : Type}  (L_g105l0 : {α : Type} → (List Int) → (List Int) → (Int → Option α) → (Option α) → Int → Option α) (u849 : List Int) (u850 : List Int) (k866 : Int → Option α) : Option α :=
  L_g105l0 u849 u850
    (fun x865 =>
      k866 x865)
    (
      k866 (0 : Int))
    (5 : Int)
def g105 {α : Type} (m : Nat) : (List Int) → (List Int) → (Int → Option α) → Option α :=
  g105b (g105l0M m)
def g105tp : List TP := [(.vl (.sv (.ptr 0 0))), (.vl (.sv (.ptr 1 0)))]
def g105bp : List BP := [(false, [(.seq (.int .u32) 6)]), (false, [(.seq (.int .u32) 6)])]
def g105K {α : Type} (G : (List Int) → (List Int) → (Int → Option α) → Option α) (ls : List Lf) (k : TV → List (List Seg) → List (List Seg) → Option α) : Option α :=
  G ((lf ls 0).lst (.int .u32)) ((lf ls 1).lst (.int .u32))
    (fun y0 => k (.vl (.sv (.int .i64 y0))) [[(.seq (.int .u32) 6 ((lf ls 0).lst (.int .u32)))], [(.seq (.int .u32) 6 ((lf ls 1).lst (.int .u32)))]] [])
def g105hd  (L_g105l0 : {α : Type} → (List Int) → (List Int) → (Int → Option α) → (Option α) → Int → Option α) : Hd where
  call := fun f args Bs k => none
  loop := fun id st k => cond (Nat.beq id 0) (loopH g105l0D (g105l0K L_g105l0) st k) (none)
  ro := fun f => []
def g105h (m : Nat) : Hd := g105hd (g105l0M m)
theorem g105l0Step  (L_g105l0 : {α : Type} → (List Int) → (List Int) → (Int → Option α) → (Option α) → Int → Option α) {α : Type} (L : (List Int) → (List Int) → (Int → Option α) → (Option α) → Int → Option α) (ls : List Lf) (k : Ex → St → Option α) :
    g105l0K (fun a852 a853 k862 k863 v851 => g105l0b a852 a853 k862 k863 (L a852 a853 k862 k863) v851) ls k = ev tab (g105hd L_g105l0) (bodyAt Go.Proofs.Try.f105 0) (atHead g105l0D ls) (loopK g105l0D 0 (loopH g105l0D (g105l0K L)) k) := by kernel_rfl
theorem g105Main  (L_g105l0 : {α : Type} → (List Int) → (List Int) → (Int → Option α) → (Option α) → Int → Option α) {α : Type} (ls : List Lf) (k : TV → List (List Seg) → List (List Seg) → Option α) :
    g105K (g105b L_g105l0) ls k = evFun tab (g105hd L_g105l0) Go.Proofs.Try.f105 (fillT g105tp ls).1 (fillB g105bp (fillT g105tp ls).2).1 k := by kernel_rfl
theorem g105Calls (m : Nat) : (g105h m).CallsOk Go.Proofs.Try.prog := cok_nil
theorem g105l0Ok (m : Nat) (α : Type) (st : St) (k : Ex → St → Option α) (r : α) (h : (g105h m).loop 0 st k = some r) :
    ∃ e st', k e st' = some r ∧ CodeS Go.Proofs.Try.prog (.block 0 (.loop (bodyAt Go.Proofs.Try.f105 0))) st e st' :=
  loop_ok (tab := tab) (h := g105h m) (F := fun n ls k => g105l0K (fun a852 a853 k862 k863 v851 => g105l0 a852 a853 k862 k863 n v851) ls k) tabOk (g105Calls m) mixed (loopsOk_of _ (fun p hp => by rw [show loopsOf (bodyAt Go.Proofs.Try.f105 0) = [] by kernel_rfl] at hp; cases hp))
    (fun _ _ => rfl) (fun n ls k => g105l0Step (g105l0M m) (fun a852 a853 k862 k863 => g105l0 a852 a853 k862 k863 n) ls k) (n := m) h
theorem g105Fn (m : Nat) : FnOk Go.Proofs.Try.prog 105 g105tp g105bp (fun {α} => g105K (g105 (α := α) m)) :=
  fn_ok (tab := tab) (h := g105h m) (fn := Go.Proofs.Try.f105) (F := fun {α} => g105K (g105 (α := α) m)) tabOk (g105Calls m) mixed (by kernel_rfl) (by kernel_rfl) (fun c hc => by
    rw [bodyOf_some hc]
    exact loopsOk_of _ (fun p hp => by
    rw [show loopsOf (bodyOf Go.Proofs.Try.f105) = [(0, bodyAt Go.Proofs.Try.f105 0)] by kernel_rfl] at hp
    simp only [List.mem_cons, List.not_mem_nil, or_false] at hp
    rcases hp with rfl
    exact g105l0Ok m))
    (fun α ls k => g105Main (g105l0M m) ls k)
theorem g105Ok (m : Nat) : RowOk Go.Proofs.Try.prog 105 (fun {α} => rowK g105tp g105bp (g105K (g105 (α := α) m))) := row_of (g105Fn m)
end Go.Proofs.Ytlmmgjngihlpeaa.Sx
