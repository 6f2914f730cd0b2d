/- Functions. Printed by our own sx.py. -/
import Derived.Test.YtbpljilgekneoaaSxT
namespace Go.Proofs.Ytbpljilgekneoaa.Sx
open Go
set_option linter.unusedVariables false
set_option maxRecDepth 100000
/-! ### g18: laws.toMoebius -/
def g18b {α : Type}   (p5 : Int) (p6 : Int) (p7 : Int) (p8 : Int) (k9 : Option α) : Option α :=
  k9
def g18 {α : Type} (m : Nat) : Int → Int → Int → Int → (Option α) → Option α :=
  g18b
def g18tp : List TP := [(.vl (.agg [(.one (.int .i64)), (.one (.int .i64)), (.one (.int .i64)), (.one (.int .i64))]))]
def g18bp : List BP := []
def g18K {α : Type} (G : Int → Int → Int → Int → (Option α) → Option α) (ls : List Lf) (k : TV → List (List Seg) → List (List Seg) → Option α) : Option α :=
  G (lf ls 0).int (lf ls 1).int (lf ls 2).int (lf ls 3).int
    (k (.vl (.agg [(.one (.int .i64 (lf ls 0).int)), (.one (.int .i64 (lf ls 1).int)), (.one (.int .i64 (lf ls 2).int)), (.one (.int .i64 (lf ls 3).int))])) [] [])
def g18hd   : Hd where
  call := fun f args Bs k => none
  loop := fun id st k => none
  ro := fun f => []
def g18h (m : Nat) : Hd := g18hd
theorem g18Main   {α : Type} (ls : List Lf) (k : TV → List (List Seg) → List (List Seg) → Option α) :
    g18K (g18b) ls k = evFun tab (g18hd) Go.Proofs.Try.f18 (fillT g18tp ls).1 (fillB g18bp (fillT g18tp ls).2).1 k := by kernel_rfl
theorem g18Calls (m : Nat) : (g18h m).CallsOk Go.Proofs.Try.prog := cok_nil
theorem g18Fn (m : Nat) : FnOk Go.Proofs.Try.prog 18 g18tp g18bp (fun {α} => g18K (g18 (α := α) m)) :=
  fn_ok (tab := tab) (h := g18h m) (fn := Go.Proofs.Try.f18) (F := fun {α} => g18K (g18 (α := α) m)) tabOk (g18Calls m) mixed (by kernel_rfl) (by kernel_rfl) (fun c hc => by
    rw [bodyOf_some hc]
    exact loopsOk_of _ (fun p hp => by rw [show loopsOf (bodyOf Go.Proofs.Try.f18) = [] by kernel_rfl] at hp; cases hp))
    (fun α ls k => g18Main ls k)
theorem g18Ok (m : Nat) : RowOk Go.Proofs.Try.prog 18 (fun {α} => rowK g18tp g18bp (g18K (g18 (α := α) m))) := row_of (g18Fn m)

/-! ### g63: spec.l00In -/
def g63b {α : Type}   (p24 : Int) (p25 : Int) (p26 : Int) (k29 : Bool → Option α) : Option α :=
  cond (decide (p24 ≥ p25))
   (
    k29 (decide (p24 ≤ p26)))
   (
    k29 false)
def g63 {α : Type} (m : Nat) : Int → Int → Int → (Bool → Option α) → Option α :=
  g63b
def g63tp : List TP := [(.vl (.sv (.int .i64))), (.vl (.sv (.int .i64))), (.vl (.sv (.int .i64)))]
def g63bp : List BP := []
def g63K {α : Type} (G : Int → Int → Int → (Bool → Option α) → Option α) (ls : List Lf) (k : TV → List (List Seg) → List (List Seg) → Option α) : Option α :=
  G (lf ls 0).int (lf ls 1).int (lf ls 2).int
    (fun y0 => k (.vl (.sv (.bool y0))) [] [])
def g63hd   : Hd where
  call := fun f args Bs k => none
  loop := fun id st k => none
  ro := fun f => []
def g63h (m : Nat) : Hd := g63hd
theorem g63Main   {α : Type} (ls : List Lf) (k : TV → List (List Seg) → List (List Seg) → Option α) :
    g63K (g63b) ls k = evFun tab (g63hd) Go.Proofs.Try.f63 (fillT g63tp ls).1 (fillB g63bp (fillT g63tp ls).2).1 k := by kernel_rfl
theorem g63Calls (m : Nat) : (g63h m).CallsOk Go.Proofs.Try.prog := cok_nil
theorem g63Fn (m : Nat) : FnOk Go.Proofs.Try.prog 63 g63tp g63bp (fun {α} => g63K (g63 (α := α) m)) :=
  fn_ok (tab := tab) (h := g63h m) (fn := Go.Proofs.Try.f63) (F := fun {α} => g63K (g63 (α := α) m)) tabOk (g63Calls m) mixed (by kernel_rfl) (by kernel_rfl) (fun c hc => by
    rw [bodyOf_some hc]
    exact loopsOk_of _ (fun p hp => by rw [show loopsOf (bodyOf Go.Proofs.Try.f63) = [] by kernel_rfl] at hp; cases hp))
    (fun α ls k => g63Main ls k)
theorem g63Ok (m : Nat) : RowOk Go.Proofs.Try.prog 63 (fun {α} => rowK g63tp g63bp (g63K (g63 (α := α) m))) := row_of (g63Fn m)

/-! ### g68: spec.l03Fits -/
def g68b {α : Type} (G_g63 : {α : Type} → Int → Int → Int → (Bool → Option α) → Option α)  (p18 : Int) (p19 : Int) (p20 : Int) (p21 : Int) (p22 : Int) (k37 : Bool → Option α) : Option α :=
  G_g63 p19 (IntKind.wrap .i64 (0 - p18)) p18
    (fun b30 =>
      cond b30
       (
        G_g63 p20 (IntKind.wrap .i64 (0 - p18)) p18
          (fun b32 =>
            cond b32
             (
              G_g63 p21 (IntKind.wrap .i64 (0 - p18)) p18
                (fun b34 =>
                  cond b34
                   (
                    G_g63 p22 (IntKind.wrap .i64 (0 - p18)) p18
                      (fun b36 =>
                        k37 b36))
                   (
                    k37 false)))
             (
              k37 false)))
       (
        k37 false))
def g68 {α : Type} (m : Nat) : Int → Int → Int → Int → Int → (Bool → Option α) → Option α :=
  g68b (g63 m)
def g68tp : List TP := [(.vl (.sv (.ptr 0 0))), (.vl (.sv (.int .i64)))]
def g68bp : List BP := [(false, [(.one (.int .i64)), (.one (.int .i64)), (.one (.int .i64)), (.one (.int .i64))])]
def g68K {α : Type} (G : Int → Int → Int → Int → Int → (Bool → Option α) → Option α) (ls : List Lf) (k : TV → List (List Seg) → List (List Seg) → Option α) : Option α :=
  G (lf ls 0).int (lf ls 1).int (lf ls 2).int (lf ls 3).int (lf ls 4).int
    (fun y0 => k (.vl (.sv (.bool y0))) [[(.one (.int .i64 (lf ls 1).int)), (.one (.int .i64 (lf ls 2).int)), (.one (.int .i64 (lf ls 3).int)), (.one (.int .i64 (lf ls 4).int))]] [])
def g68hd (G_g63 : {α : Type} → Int → Int → Int → (Bool → Option α) → Option α)  : Hd where
  call := fun f args Bs k => cond (Nat.beq f 63) (rowK g63tp g63bp (g63K G_g63) args Bs k) (none)
  loop := fun id st k => none
  ro := fun f => []
def g68h (m : Nat) : Hd := g68hd (g63 m)
theorem g68Main (G_g63 : {α : Type} → Int → Int → Int → (Bool → Option α) → Option α)  {α : Type} (ls : List Lf) (k : TV → List (List Seg) → List (List Seg) → Option α) :
    g68K (g68b G_g63) ls k = evFun tab (g68hd G_g63) Go.Proofs.Try.f68 (fillT g68tp ls).1 (fillB g68bp (fillT g68tp ls).2).1 k := by kernel_rfl
theorem g68Calls (m : Nat) : (g68h m).CallsOk Go.Proofs.Try.prog := (cok_cons (g63Ok m) cok_nil)
theorem g68Fn (m : Nat) : FnOk Go.Proofs.Try.prog 68 g68tp g68bp (fun {α} => g68K (g68 (α := α) m)) :=
  fn_ok (tab := tab) (h := g68h m) (fn := Go.Proofs.Try.f68) (F := fun {α} => g68K (g68 (α := α) m)) tabOk (g68Calls m) mixed (by kernel_rfl) (by kernel_rfl) (fun c hc => by
    rw [bodyOf_some hc]
    exact loopsOk_of _ (fun p hp => by rw [show loopsOf (bodyOf Go.Proofs.Try.f68) = [] by kernel_rfl] at hp; cases hp))
    (fun α ls k => g68Main (g63 m) ls k)
theorem g68Ok (m : Nat) : RowOk Go.Proofs.Try.prog 68 (fun {α} => rowK g68tp g68bp (g68K (g68 (α := α) m))) := row_of (g68Fn m)

/-! ### g67: spec.l03Size -/
def g67b {α : Type}   (p39 : Int) (k42 : Int → Option α) : Option α :=
  cond (decide (p39 < (0 : Int)))
   (
    k42 (IntKind.wrap .i64 (0 - p39)))
   (
    k42 p39)
def g67 {α : Type} (m : Nat) : Int → (Int → Option α) → Option α :=
  g67b
def g67tp : List TP := [(.vl (.sv (.int .i64)))]
def g67bp : List BP := []
def g67K {α : Type} (G : Int → (Int → Option α) → Option α) (ls : List Lf) (k : TV → List (List Seg) → List (List Seg) → Option α) : Option α :=
  G (lf ls 0).int
    (fun y0 => k (.vl (.sv (.int .i64 y0))) [] [])
def g67hd   : Hd where
  call := fun f args Bs k => none
  loop := fun id st k => none
  ro := fun f => []
def g67h (m : Nat) : Hd := g67hd
theorem g67Main   {α : Type} (ls : List Lf) (k : TV → List (List Seg) → List (List Seg) → Option α) :
    g67K (g67b) ls k = evFun tab (g67hd) Go.Proofs.Try.f67 (fillT g67tp ls).1 (fillB g67bp (fillT g67tp ls).2).1 k := by kernel_rfl
theorem g67Calls (m : Nat) : (g67h m).CallsOk Go.Proofs.Try.prog := cok_nil
theorem g67Fn (m : Nat) : FnOk Go.Proofs.Try.prog 67 g67tp g67bp (fun {α} => g67K (g67 (α := α) m)) :=
  fn_ok (tab := tab) (h := g67h m) (fn := Go.Proofs.Try.f67) (F := fun {α} => g67K (g67 (α := α) m)) tabOk (g67Calls m) mixed (by kernel_rfl) (by kernel_rfl) (fun c hc => by
    rw [bodyOf_some hc]
    exact loopsOk_of _ (fun p hp => by rw [show loopsOf (bodyOf Go.Proofs.Try.f67) = [] by kernel_rfl] at hp; cases hp))
    (fun α ls k => g67Main ls k)
theorem g67Ok (m : Nat) : RowOk Go.Proofs.Try.prog 67 (fun {α} => rowK g67tp g67bp (g67K (g67 (α := α) m))) := row_of (g67Fn m)

/-! ### g57: spec.l03Machine -/
def g57b {α : Type} (G_g68 : {α : Type} → Int → Int → Int → Int → Int → (Bool → Option α) → Option α) (G_g67 : {α : Type} → Int → (Int → Option α) → Option α)  (p14 : Int) (p15 : Int) (p16 : Int) (p17 : Int) (k45 : Bool → Option α) : Option α :=
  G_g68 (1000000 : Int) p14 p15 p16 p17
    (fun b38 =>
      cond b38
       (
        G_g67 p16
          (fun x43 =>
            k45 (decide (p17 > x43))))
       (
        k45 false))
def g57 {α : Type} (m : Nat) : Int → Int → Int → Int → (Bool → Option α) → Option α :=
  g57b (g68 m) (g67 m)
def g57tp : List TP := [(.vl (.sv (.ptr 0 0)))]
def g57bp : List BP := [(false, [(.one (.int .i64)), (.one (.int .i64)), (.one (.int .i64)), (.one (.int .i64))])]
def g57K {α : Type} (G : Int → Int → Int → Int → (Bool → Option α) → Option α) (ls : List Lf) (k : TV → List (List Seg) → List (List Seg) → Option α) : Option α :=
  G (lf ls 0).int (lf ls 1).int (lf ls 2).int (lf ls 3).int
    (fun y0 => k (.vl (.sv (.bool y0))) [[(.one (.int .i64 (lf ls 0).int)), (.one (.int .i64 (lf ls 1).int)), (.one (.int .i64 (lf ls 2).int)), (.one (.int .i64 (lf ls 3).int))]] [])
def g57hd (G_g68 : {α : Type} → Int → Int → Int → Int → Int → (Bool → Option α) → Option α) (G_g67 : {α : Type} → Int → (Int → Option α) → Option α)  : Hd where
  call := fun f args Bs k => cond (Nat.beq f 68) (rowK g68tp g68bp (g68K G_g68) args Bs k) (cond (Nat.beq f 67) (rowK g67tp g67bp (g67K G_g67) args Bs k) (none))
  loop := fun id st k => none
  ro := fun f => cond (Nat.beq f 68) [0] ([])
def g57h (m : Nat) : Hd := g57hd (g68 m) (g67 m)
theorem g57Main (G_g68 : {α : Type} → Int → Int → Int → Int → Int → (Bool → Option α) → Option α) (G_g67 : {α : Type} → Int → (Int → Option α) → Option α)  {α : Type} (ls : List Lf) (k : TV → List (List Seg) → List (List Seg) → Option α) :
    g57K (g57b G_g68 G_g67) ls k = evFun tab (g57hd G_g68 G_g67) Go.Proofs.Try.f57 (fillT g57tp ls).1 (fillB g57bp (fillT g57tp ls).2).1 k := by kernel_rfl
theorem g57Calls (m : Nat) : (g57h m).CallsOk Go.Proofs.Try.prog := (cok_cons (g68Ok m) (cok_cons (g67Ok m) cok_nil))
theorem g57Fn (m : Nat) : FnOk Go.Proofs.Try.prog 57 g57tp g57bp (fun {α} => g57K (g57 (α := α) m)) :=
  fn_ok (tab := tab) (h := g57h m) (fn := Go.Proofs.Try.f57) (F := fun {α} => g57K (g57 (α := α) m)) tabOk (g57Calls m) mixed (by kernel_rfl) (by kernel_rfl) (fun c hc => by
    rw [bodyOf_some hc]
    exact loopsOk_of _ (fun p hp => by rw [show loopsOf (bodyOf Go.Proofs.Try.f57) = [] by kernel_rfl] at hp; cases hp))
    (fun α ls k => g57Main (g68 m) (g67 m) ls k)
theorem g57Ok (m : Nat) : RowOk Go.Proofs.Try.prog 57 (fun {α} => rowK g57tp g57bp (g57K (g57 (α := α) m))) := row_of (g57Fn m)

/-! ### g17: spec.ValidMoebius -/
def g17b {α : Type} (G_g57 : {α : Type} → Int → Int → Int → Int → (Bool → Option α) → Option α)  (p10 : Int) (p11 : Int) (p12 : Int) (p13 : Int) (k47 : Bool → Option α) : Option α :=
  G_g57 p10 p11 p12 p13
    (fun b46 =>
      k47 b46)
def g17 {α : Type} (m : Nat) : Int → Int → Int → Int → (Bool → Option α) → Option α :=
  g17b (g57 m)
def g17tp : List TP := [(.vl (.agg [(.one (.int .i64)), (.one (.int .i64)), (.one (.int .i64)), (.one (.int .i64))]))]
def g17bp : List BP := []
def g17K {α : Type} (G : Int → Int → Int → Int → (Bool → Option α) → Option α) (ls : List Lf) (k : TV → List (List Seg) → List (List Seg) → Option α) : Option α :=
  G (lf ls 0).int (lf ls 1).int (lf ls 2).int (lf ls 3).int
    (fun y0 => k (.vl (.sv (.bool y0))) [] [])
def g17hd (G_g57 : {α : Type} → Int → Int → Int → Int → (Bool → Option α) → Option α)  : Hd where
  call := fun f args Bs k => cond (Nat.beq f 57) (rowK g57tp g57bp (g57K G_g57) args Bs k) (none)
  loop := fun id st k => none
  ro := fun f => cond (Nat.beq f 57) [0] ([])
def g17h (m : Nat) : Hd := g17hd (g57 m)
theorem g17Main (G_g57 : {α : Type} → Int → Int → Int → Int → (Bool → Option α) → Option α)  {α : Type} (ls : List Lf) (k : TV → List (List Seg) → List (List Seg) → Option α) :
    g17K (g17b G_g57) ls k = evFun tab (g17hd G_g57) Go.Proofs.Try.f17 (fillT g17tp ls).1 (fillB g17bp (fillT g17tp ls).2).1 k := by kernel_rfl
theorem g17Calls (m : Nat) : (g17h m).CallsOk Go.Proofs.Try.prog := (cok_cons (g57Ok m) cok_nil)
theorem g17Fn (m : Nat) : FnOk Go.Proofs.Try.prog 17 g17tp g17bp (fun {α} => g17K (g17 (α := α) m)) :=
  fn_ok (tab := tab) (h := g17h m) (fn := Go.Proofs.Try.f17) (F := fun {α} => g17K (g17 (α := α) m)) tabOk (g17Calls m) mixed (by kernel_rfl) (by kernel_rfl) (fun c hc => by
    rw [bodyOf_some hc]
    exact loopsOk_of _ (fun p hp => by rw [show loopsOf (bodyOf Go.Proofs.Try.f17) = [] by kernel_rfl] at hp; cases hp))
    (fun α ls k => g17Main (g57 m) ls k)
theorem g17Ok (m : Nat) : RowOk Go.Proofs.Try.prog 17 (fun {α} => rowK g17tp g17bp (g17K (g17 (α := α) m))) := row_of (g17Fn m)

/-! ### g58: impl.within -/
def g58b {α : Type}   (p65 : Int) (p66 : Int) (p67 : Int) (k70 : Bool → Option α) : Option α :=
  cond (decide (p65 ≥ p66))
   (
    k70 (decide (p65 ≤ p67)))
   (
    k70 false)
def g58 {α : Type} (m : Nat) : Int → Int → Int → (Bool → Option α) → Option α :=
  g58b
def g58tp : List TP := [(.vl (.sv (.int .i64))), (.vl (.sv (.int .i64))), (.vl (.sv (.int .i64)))]
def g58bp : List BP := []
def g58K {α : Type} (G : Int → Int → Int → (Bool → Option α) → Option α) (ls : List Lf) (k : TV → List (List Seg) → List (List Seg) → Option α) : Option α :=
  G (lf ls 0).int (lf ls 1).int (lf ls 2).int
    (fun y0 => k (.vl (.sv (.bool y0))) [] [])
def g58hd   : Hd where
  call := fun f args Bs k => none
  loop := fun id st k => none
  ro := fun f => []
def g58h (m : Nat) : Hd := g58hd
theorem g58Main   {α : Type} (ls : List Lf) (k : TV → List (List Seg) → List (List Seg) → Option α) :
    g58K (g58b) ls k = evFun tab (g58hd) Go.Proofs.Try.f58 (fillT g58tp ls).1 (fillB g58bp (fillT g58tp ls).2).1 k := by kernel_rfl
theorem g58Calls (m : Nat) : (g58h m).CallsOk Go.Proofs.Try.prog := cok_nil
theorem g58Fn (m : Nat) : FnOk Go.Proofs.Try.prog 58 g58tp g58bp (fun {α} => g58K (g58 (α := α) m)) :=
  fn_ok (tab := tab) (h := g58h m) (fn := Go.Proofs.Try.f58) (F := fun {α} => g58K (g58 (α := α) m)) tabOk (g58Calls m) mixed (by kernel_rfl) (by kernel_rfl) (fun c hc => by
    rw [bodyOf_some hc]
    exact loopsOk_of _ (fun p hp => by rw [show loopsOf (bodyOf Go.Proofs.Try.f58) = [] by kernel_rfl] at hp; cases hp))
    (fun α ls k => g58Main ls k)
theorem g58Ok (m : Nat) : RowOk Go.Proofs.Try.prog 58 (fun {α} => rowK g58tp g58bp (g58K (g58 (α := α) m))) := row_of (g58Fn m)

/-! ### g19: impl.ValidMoebius -/
def g19l0b {α : Type} (G_g58 : {α : Type} → Int → Int → Int → (Bool → Option α) → Option α)  (m53 : Nat) (m54 : Nat) (m55 : Nat) (v56 : Int) (v58 : Int) (v59 : Int) (v60 : Int) (v61 : Int) (a62 : List Int) (k74 : Option α) (k75 : Option α) (r76 : Int → Option α) (v57 : Int) : Option α :=
  cond (decide (v57 < v56))
   (
    if 0 ≤ v57 ∧ v57 < (m54 : Nat) then
      if (m53 + v57.toNat) < 4 then
        G_g58 (List.getD a62 (m53 + v57.toNat) 0) (-1000000 : Int) (1000000 : Int)
          (fun b71 =>
            cond (!b71)
             (
              k74)
             (
              r76 (IntKind.wrap .i64 (v57 + (1 : Int)))))
      else
        none
    else
      none)
   (
    k75)
def g19l0 {α : Type} (G_g58 : {α : Type} → Int → Int → Int → (Bool → Option α) → Option α)  (m53 : Nat) (m54 : Nat) (m55 : Nat) (v56 : Int) (v58 : Int) (v59 : Int) (v60 : Int) (v61 : Int) (a62 : List Int) (k74 : Option α) (k75 : Option α) : Nat → Int → Option α
  | 0 => fun _ => none
  | m + 1 => fun v57 => g19l0b G_g58 m53 m54 m55 v56 v58 v59 v60 v61 a62 k74 k75 (g19l0 G_g58 m53 m54 m55 v56 v58 v59 v60 v61 a62 k74 k75 m) v57
def g19l0M {α : Type} (m : Nat) : Nat → Nat → Nat → Int → Int → Int → Int → Int → (List Int) → (Option α) → (Option α) → Int → Option α :=
  fun m53 m54 m55 v56 v58 v59 v60 v61 a62 k74 k75 v57 => g19l0 (g58 m) m53 m54 m55 v56 v58 v59 v60 v61 a62 k74 k75 m v57
def g19l0D : LoopD := { n := 32, sl := [1, 13, 14, 15], bl := [1001, 1013], tp := [(.vl (.sv (.ptr 1001 0))), (.vl (.sv (.slc 1013 0 1))), (.vl (.sv (.int .i64))), (.vl (.sv (.int .i64)))], bp := [(true, [(.one (.int .i64)), (.one (.int .i64)), (.one (.int .i64)), (.one (.int .i64))]), (true, [(.seq (.int .i64) 4)])], xs := [(1, [2], []), (2, [1], [1001])] }
def g19l0K {α : Type} (L : Nat → Nat → Nat → Int → Int → Int → Int → Int → (List Int) → (Option α) → (Option α) → Int → Option α) (ls : List Lf) (k : Ex → St → Option α) : Option α :=
  L (lf ls 0).nat (lf ls 1).nat (lf ls 2).nat (lf ls 3).int (lf ls 5).int (lf ls 6).int (lf ls 7).int (lf ls 8).int ((lf ls 9).lst (.int .i64))
    (k .ret (mkSt 32 [2] [(.vl (.sv (.bool false)))] [] []))
    (k .normal (mkSt 32 [1] [(.vl (.sv (.ptr 1001 0)))] [1001] [(true, [(.one (.int .i64 (lf ls 5).int)), (.one (.int .i64 (lf ls 6).int)), (.one (.int .i64 (lf ls 7).int)), (.one (.int .i64 (lf ls 8).int))])]))
    (lf ls 4).int
def g19b {α : Type} (G_g58 : {α : Type} → Int → Int → Int → (Bool → Option α) → Option α) (L_g19l0 : {α : Type} → Nat → Nat → Nat → Int → Int → Int → Int → Int → (List Int) → (Option α) → (Option α) → Int → Option α) (p49 : Int) (p50 : Int) (p51 : Int) (p52 : Int) (k80 : Bool → Option α) : Option α :=
  L_g19l0 0 4 4 (4 : Int) p49 p50 p51 p52 [p49, p50, p51, p52]
    (
      k80 false)
    (
      k80 (decide (p52 > (imax p51 (IntKind.wrap .i64 (0 - p51))))))
    (0 : Int)
def g19 {α : Type} (m : Nat) : Int → Int → Int → Int → (Bool → Option α) → Option α :=
  g19b (g58 m) (g19l0M m)
def g19tp : List TP := [(.vl (.agg [(.one (.int .i64)), (.one (.int .i64)), (.one (.int .i64)), (.one (.int .i64))]))]
def g19bp : List BP := []
def g19K {α : Type} (G : Int → Int → Int → Int → (Bool → Option α) → Option α) (ls : List Lf) (k : TV → List (List Seg) → List (List Seg) → Option α) : Option α :=
  G (lf ls 0).int (lf ls 1).int (lf ls 2).int (lf ls 3).int
    (fun y0 => k (.vl (.sv (.bool y0))) [] [])
def g19hd (G_g58 : {α : Type} → Int → Int → Int → (Bool → Option α) → Option α) (L_g19l0 : {α : Type} → Nat → Nat → Nat → Int → Int → Int → Int → Int → (List Int) → (Option α) → (Option α) → Int → Option α) : Hd where
  call := fun f args Bs k => cond (Nat.beq f 58) (rowK g58tp g58bp (g58K G_g58) args Bs k) (none)
  loop := fun id st k => cond (Nat.beq id 0) (loopH g19l0D (g19l0K L_g19l0) st k) (none)
  ro := fun f => []
def g19h (m : Nat) : Hd := g19hd (g58 m) (g19l0M m)
theorem g19l0Step (G_g58 : {α : Type} → Int → Int → Int → (Bool → Option α) → Option α) (L_g19l0 : {α : Type} → Nat → Nat → Nat → Int → Int → Int → Int → Int → (List Int) → (Option α) → (Option α) → Int → Option α) {α : Type} (L : Nat → Nat → Nat → Int → Int → Int → Int → Int → (List Int) → (Option α) → (Option α) → Int → Option α) (ls : List Lf) (k : Ex → St → Option α) :
    g19l0K (fun m53 m54 m55 v56 v58 v59 v60 v61 a62 k74 k75 v57 => g19l0b G_g58 m53 m54 m55 v56 v58 v59 v60 v61 a62 k74 k75 (L m53 m54 m55 v56 v58 v59 v60 v61 a62 k74 k75) v57) ls k = ev tab (g19hd G_g58 L_g19l0) (bodyAt Go.Proofs.Try.f19 0) (atHead g19l0D ls) (loopK g19l0D 0 (loopH g19l0D (g19l0K L)) k) := by kernel_rfl
theorem g19Main (G_g58 : {α : Type} → Int → Int → Int → (Bool → Option α) → Option α) (L_g19l0 : {α : Type} → Nat → Nat → Nat → Int → Int → Int → Int → Int → (List Int) → (Option α) → (Option α) → Int → Option α) {α : Type} (ls : List Lf) (k : TV → List (List Seg) → List (List Seg) → Option α) :
    g19K (g19b G_g58 L_g19l0) ls k = evFun tab (g19hd G_g58 L_g19l0) Go.Proofs.Try.f19 (fillT g19tp ls).1 (fillB g19bp (fillT g19tp ls).2).1 k := by kernel_rfl
theorem g19Calls (m : Nat) : (g19h m).CallsOk Go.Proofs.Try.prog := (cok_cons (g58Ok m) cok_nil)
theorem g19l0Ok (m : Nat) (α : Type) (st : St) (k : Ex → St → Option α) (r : α) (h : (g19h m).loop 0 st k = some r) :
    ∃ e st', k e st' = some r ∧ CodeS Go.Proofs.Try.prog (.block 0 (.loop (bodyAt Go.Proofs.Try.f19 0))) st e st' :=
  loop_ok (tab := tab) (h := g19h m) (F := fun n ls k => g19l0K (fun m53 m54 m55 v56 v58 v59 v60 v61 a62 k74 k75 v57 => g19l0 (g58 m) m53 m54 m55 v56 v58 v59 v60 v61 a62 k74 k75 n v57) ls k) tabOk (g19Calls m) mixed (loopsOk_of _ (fun p hp => by rw [show loopsOf (bodyAt Go.Proofs.Try.f19 0) = [] by kernel_rfl] at hp; cases hp))
    (fun _ _ => rfl) (fun n ls k => g19l0Step (g58 m) (g19l0M m) (fun m53 m54 m55 v56 v58 v59 v60 v61 a62 k74 k75 => g19l0 (g58 m) m53 m54 m55 v56 v58 v59 v60 v61 a62 k74 k75 n) ls k) (n := m) h
theorem g19Fn (m : Nat) : FnOk Go.Proofs.Try.prog 19 g19tp g19bp (fun {α} => g19K (g19 (α := α) m)) :=
  fn_ok (tab := tab) (h := g19h m) (fn := Go.Proofs.Try.f19) (F := fun {α} => g19K (g19 (α := α) m)) tabOk (g19Calls m) mixed (by kernel_rfl) (by kernel_rfl) (fun c hc => by
    rw [bodyOf_some hc]
    exact loopsOk_of _ (fun p hp => by
    rw [show loopsOf (bodyOf Go.Proofs.Try.f19) = [(0, bodyAt Go.Proofs.Try.f19 0)] by kernel_rfl] at hp
    simp only [List.mem_cons, List.not_mem_nil, or_false] at hp
    rcases hp with rfl
    exact g19l0Ok m))
    (fun α ls k => g19Main (g58 m) (g19l0M m) ls k)
theorem g19Ok (m : Nat) : RowOk Go.Proofs.Try.prog 19 (fun {α} => rowK g19tp g19bp (g19K (g19 (α := α) m))) := row_of (g19Fn m)

/-! ### g3: laws.FnExactValidMoebius -/
def g3b {α : Type} (G_g18 : {α : Type} → Int → Int → Int → Int → (Option α) → Option α) (G_g17 : {α : Type} → Int → Int → Int → Int → (Bool → Option α) → Option α) (G_g19 : {α : Type} → Int → Int → Int → Int → (Bool → Option α) → Option α)  (p1 : Int) (p2 : Int) (p3 : Int) (p4 : Int) (k83 : Bool → Option α) : Option α :=
  G_g18 p1 p2 p3 p4
    (
      G_g17 p1 p2 p3 p4
        (fun b48 =>
          G_g18 p1 p2 p3 p4
            (
              G_g19 p1 p2 p3 p4
                (fun b81 =>
                  cond (!(b81 == b48))
                   (
                    k83 false)
                   (
                    k83 true)))))
def g3 {α : Type} (m : Nat) : Int → Int → Int → Int → (Bool → Option α) → Option α :=
  g3b (g18 m) (g17 m) (g19 m)
def g3tp : List TP := [(.vl (.agg [(.one (.int .i64)), (.one (.int .i64)), (.one (.int .i64)), (.one (.int .i64))]))]
def g3bp : List BP := []
def g3K {α : Type} (G : Int → Int → Int → Int → (Bool → Option α) → Option α) (ls : List Lf) (k : TV → List (List Seg) → List (List Seg) → Option α) : Option α :=
  G (lf ls 0).int (lf ls 1).int (lf ls 2).int (lf ls 3).int
    (fun y0 => k (.vl (.sv (.bool y0))) [] [])
def g3hd (G_g18 : {α : Type} → Int → Int → Int → Int → (Option α) → Option α) (G_g17 : {α : Type} → Int → Int → Int → Int → (Bool → Option α) → Option α) (G_g19 : {α : Type} → Int → Int → Int → Int → (Bool → Option α) → Option α)  : Hd where
  call := fun f args Bs k => cond (Nat.beq f 18) (rowK g18tp g18bp (g18K G_g18) args Bs k) (cond (Nat.beq f 17) (rowK g17tp g17bp (g17K G_g17) args Bs k) (cond (Nat.beq f 19) (rowK g19tp g19bp (g19K G_g19) args Bs k) (none)))
  loop := fun id st k => none
  ro := fun f => []
def g3h (m : Nat) : Hd := g3hd (g18 m) (g17 m) (g19 m)
theorem g3Main (G_g18 : {α : Type} → Int → Int → Int → Int → (Option α) → Option α) (G_g17 : {α : Type} → Int → Int → Int → Int → (Bool → Option α) → Option α) (G_g19 : {α : Type} → Int → Int → Int → Int → (Bool → Option α) → Option α)  {α : Type} (ls : List Lf) (k : TV → List (List Seg) → List (List Seg) → Option α) :
    g3K (g3b G_g18 G_g17 G_g19) ls k = evFun tab (g3hd G_g18 G_g17 G_g19) Go.Proofs.Try.f3 (fillT g3tp ls).1 (fillB g3bp (fillT g3tp ls).2).1 k := by kernel_rfl
theorem g3Calls (m : Nat) : (g3h m).CallsOk Go.Proofs.Try.prog := (cok_cons (g18Ok m) (cok_cons (g17Ok m) (cok_cons (g19Ok m) cok_nil)))
theorem g3Fn (m : Nat) : FnOk Go.Proofs.Try.prog 3 g3tp g3bp (fun {α} => g3K (g3 (α := α) m)) :=
  fn_ok (tab := tab) (h := g3h m) (fn := Go.Proofs.Try.f3) (F := fun {α} => g3K (g3 (α := α) m)) tabOk (g3Calls m) mixed (by kernel_rfl) (by kernel_rfl) (fun c hc => by
    rw [bodyOf_some hc]
    exact loopsOk_of _ (fun p hp => by rw [show loopsOf (bodyOf Go.Proofs.Try.f3) = [] by kernel_rfl] at hp; cases hp))
    (fun α ls k => g3Main (g18 m) (g17 m) (g19 m) ls k)
theorem g3Ok (m : Nat) : RowOk Go.Proofs.Try.prog 3 (fun {α} => rowK g3tp g3bp (g3K (g3 (α := α) m))) := row_of (g3Fn m)

/-! ### g21: laws.toRatio -/
def g21b {α : Type}   (p86 : Int) (p87 : Int) (k88 : Option α) : Option α :=
  k88
def g21 {α : Type} (m : Nat) : Int → Int → (Option α) → Option α :=
  g21b
def g21tp : List TP := [(.vl (.agg [(.one (.int .i64)), (.one (.int .i64))]))]
def g21bp : List BP := []
def g21K {α : Type} (G : Int → Int → (Option α) → Option α) (ls : List Lf) (k : TV → List (List Seg) → List (List Seg) → Option α) : Option α :=
  G (lf ls 0).int (lf ls 1).int
    (k (.vl (.agg [(.one (.int .i64 (lf ls 0).int)), (.one (.int .i64 (lf ls 1).int))])) [] [])
def g21hd   : Hd where
  call := fun f args Bs k => none
  loop := fun id st k => none
  ro := fun f => []
def g21h (m : Nat) : Hd := g21hd
theorem g21Main   {α : Type} (ls : List Lf) (k : TV → List (List Seg) → List (List Seg) → Option α) :
    g21K (g21b) ls k = evFun tab (g21hd) Go.Proofs.Try.f21 (fillT g21tp ls).1 (fillB g21bp (fillT g21tp ls).2).1 k := by kernel_rfl
theorem g21Calls (m : Nat) : (g21h m).CallsOk Go.Proofs.Try.prog := cok_nil
theorem g21Fn (m : Nat) : FnOk Go.Proofs.Try.prog 21 g21tp g21bp (fun {α} => g21K (g21 (α := α) m)) :=
  fn_ok (tab := tab) (h := g21h m) (fn := Go.Proofs.Try.f21) (F := fun {α} => g21K (g21 (α := α) m)) tabOk (g21Calls m) mixed (by kernel_rfl) (by kernel_rfl) (fun c hc => by
    rw [bodyOf_some hc]
    exact loopsOk_of _ (fun p hp => by rw [show loopsOf (bodyOf Go.Proofs.Try.f21) = [] by kernel_rfl] at hp; cases hp))
    (fun α ls k => g21Main ls k)
theorem g21Ok (m : Nat) : RowOk Go.Proofs.Try.prog 21 (fun {α} => rowK g21tp g21bp (g21K (g21 (α := α) m))) := row_of (g21Fn m)

/-! ### g85: spec.l03Common -/
def g85l0b {α : Type}    (k103 : Int → Option α) (r104 : Int → Int → Option α) (v99 : Int) (v100 : Int) : Option α :=
  cond (v100 != (0 : Int))
   (
    if v100 = 0 then
      none
    else
      r104 v100 (Int.tmod v99 v100))
   (
    k103 v99)
def g85l0 {α : Type}    (k103 : Int → Option α) : Nat → Int → Int → Option α
  | 0 => fun _ _ => none
  | m + 1 => fun v99 v100 => g85l0b  k103 (g85l0  k103 m) v99 v100
def g85l0M {α : Type} (m : Nat) : (Int → Option α) → Int → Int → Option α :=
  fun  k103 v99 v100 => g85l0  k103 m v99 v100
def g85l0D : LoopD := { n := 18, sl := [0, 1], bl := [], tp := [(.vl (.sv (.int .i64))), (.vl (.sv (.int .i64)))], bp := [], xs := [(2, [0], [])] }
def g85l0K {α : Type} (L : (Int → Option α) → Int → Int → Option α) (ls : List Lf) (k : Ex → St → Option α) : Option α :=
  L 
    (fun y0 => k .normal (mkSt 18 [0] [(.vl (.sv (.int .i64 y0)))] [] []))
    (lf ls 0).int (lf ls 1).int
def g85b {α : Type} (G_g67 : {α : Type} → Int → (Int → Option α) → Option α) (L_g85l0 : {α : Type} → (Int → Option α) → Int → Int → Option α) (p95 : Int) (p96 : Int) (k106 : Int → Option α) : Option α :=
  G_g67 p95
    (fun x97 =>
      G_g67 p96
        (fun x98 =>
          L_g85l0
            (fun x105 =>
              k106 x105)
            x97 x98))
def g85 {α : Type} (m : Nat) : Int → Int → (Int → Option α) → Option α :=
  g85b (g67 m) (g85l0M m)
def g85tp : List TP := [(.vl (.sv (.int .i64))), (.vl (.sv (.int .i64)))]
def g85bp : List BP := []
def g85K {α : Type} (G : Int → Int → (Int → Option α) → Option α) (ls : List Lf) (k : TV → List (List Seg) → List (List Seg) → Option α) : Option α :=
  G (lf ls 0).int (lf ls 1).int
    (fun y0 => k (.vl (.sv (.int .i64 y0))) [] [])
def g85hd (G_g67 : {α : Type} → Int → (Int → Option α) → Option α) (L_g85l0 : {α : Type} → (Int → Option α) → Int → Int → Option α) : Hd where
  call := fun f args Bs k => cond (Nat.beq f 67) (rowK g67tp g67bp (g67K G_g67) args Bs k) (none)
  loop := fun id st k => cond (Nat.beq id 0) (loopH g85l0D (g85l0K L_g85l0) st k) (none)
  ro := fun f => []
def g85h (m : Nat) : Hd := g85hd (g67 m) (g85l0M m)
theorem g85l0Step (G_g67 : {α : Type} → Int → (Int → Option α) → Option α) (L_g85l0 : {α : Type} → (Int → Option α) → Int → Int → Option α) {α : Type} (L : (Int → Option α) → Int → Int → Option α) (ls : List Lf) (k : Ex → St → Option α) :
    g85l0K (fun k103 v99 v100 => g85l0b k103 (L k103) v99 v100) ls k = ev tab (g85hd G_g67 L_g85l0) (bodyAt Go.Proofs.Try.f85 0) (atHead g85l0D ls) (loopK g85l0D 0 (loopH g85l0D (g85l0K L)) k) := by kernel_rfl
theorem g85Main (G_g67 : {α : Type} → Int → (Int → Option α) → Option α) (L_g85l0 : {α : Type} → (Int → Option α) → Int → Int → Option α) {α : Type} (ls : List Lf) (k : TV → List (List Seg) → List (List Seg) → Option α) :
    g85K (g85b G_g67 L_g85l0) ls k = evFun tab (g85hd G_g67 L_g85l0) Go.Proofs.Try.f85 (fillT g85tp ls).1 (fillB g85bp (fillT g85tp ls).2).1 k := by kernel_rfl
theorem g85Calls (m : Nat) : (g85h m).CallsOk Go.Proofs.Try.prog := (cok_cons (g67Ok m) cok_nil)
theorem g85l0Ok (m : Nat) (α : Type) (st : St) (k : Ex → St → Option α) (r : α) (h : (g85h m).loop 0 st k = some r) :
    ∃ e st', k e st' = some r ∧ CodeS Go.Proofs.Try.prog (.block 0 (.loop (bodyAt Go.Proofs.Try.f85 0))) st e st' :=
  loop_ok (tab := tab) (h := g85h m) (F := fun n ls k => g85l0K (fun k103 v99 v100 => g85l0 k103 n v99 v100) ls k) tabOk (g85Calls m) mixed (loopsOk_of _ (fun p hp => by rw [show loopsOf (bodyAt Go.Proofs.Try.f85 0) = [] by kernel_rfl] at hp; cases hp))
    (fun _ _ => rfl) (fun n ls k => g85l0Step (g67 m) (g85l0M m) (fun k103 => g85l0 k103 n) ls k) (n := m) h
theorem g85Fn (m : Nat) : FnOk Go.Proofs.Try.prog 85 g85tp g85bp (fun {α} => g85K (g85 (α := α) m)) :=
  fn_ok (tab := tab) (h := g85h m) (fn := Go.Proofs.Try.f85) (F := fun {α} => g85K (g85 (α := α) m)) tabOk (g85Calls m) mixed (by kernel_rfl) (by kernel_rfl) (fun c hc => by
    rw [bodyOf_some hc]
    exact loopsOk_of _ (fun p hp => by
    rw [show loopsOf (bodyOf Go.Proofs.Try.f85) = [(0, bodyAt Go.Proofs.Try.f85 0)] by kernel_rfl] at hp
    simp only [List.mem_cons, List.not_mem_nil, or_false] at hp
    rcases hp with rfl
    exact g85l0Ok m))
    (fun α ls k => g85Main (g67 m) (g85l0M m) ls k)
theorem g85Ok (m : Nat) : RowOk Go.Proofs.Try.prog 85 (fun {α} => rowK g85tp g85bp (g85K (g85 (α := α) m))) := row_of (g85Fn m)

/-! ### g59: spec.l03Ratio -/
def g59b {α : Type} (G_g63 : {α : Type} → Int → Int → Int → (Bool → Option α) → Option α) (G_g85 : {α : Type} → Int → Int → (Int → Option α) → Option α)  (p91 : Int) (p92 : Int) (k109 : Bool → Option α) : Option α :=
  G_g63 p92 (1 : Int) (2147483648 : Int)
    (fun b93 =>
      cond b93
       (
        G_g63 p91 (-2147483648 : Int) (2147483648 : Int)
          (fun b94 =>
            cond b94
             (
              G_g85 p91 p92
                (fun x107 =>
                  k109 (x107 == (1 : Int))))
             (
              k109 false)))
       (
        k109 false))
def g59 {α : Type} (m : Nat) : Int → Int → (Bool → Option α) → Option α :=
  g59b (g63 m) (g85 m)
def g59tp : List TP := [(.vl (.sv (.ptr 0 0)))]
def g59bp : List BP := [(false, [(.one (.int .i64)), (.one (.int .i64))])]
def g59K {α : Type} (G : Int → Int → (Bool → Option α) → Option α) (ls : List Lf) (k : TV → List (List Seg) → List (List Seg) → Option α) : Option α :=
  G (lf ls 0).int (lf ls 1).int
    (fun y0 => k (.vl (.sv (.bool y0))) [[(.one (.int .i64 (lf ls 0).int)), (.one (.int .i64 (lf ls 1).int))]] [])
def g59hd (G_g63 : {α : Type} → Int → Int → Int → (Bool → Option α) → Option α) (G_g85 : {α : Type} → Int → Int → (Int → Option α) → Option α)  : Hd where
  call := fun f args Bs k => cond (Nat.beq f 63) (rowK g63tp g63bp (g63K G_g63) args Bs k) (cond (Nat.beq f 85) (rowK g85tp g85bp (g85K G_g85) args Bs k) (none))
  loop := fun id st k => none
  ro := fun f => []
def g59h (m : Nat) : Hd := g59hd (g63 m) (g85 m)
theorem g59Main (G_g63 : {α : Type} → Int → Int → Int → (Bool → Option α) → Option α) (G_g85 : {α : Type} → Int → Int → (Int → Option α) → Option α)  {α : Type} (ls : List Lf) (k : TV → List (List Seg) → List (List Seg) → Option α) :
    g59K (g59b G_g63 G_g85) ls k = evFun tab (g59hd G_g63 G_g85) Go.Proofs.Try.f59 (fillT g59tp ls).1 (fillB g59bp (fillT g59tp ls).2).1 k := by kernel_rfl
theorem g59Calls (m : Nat) : (g59h m).CallsOk Go.Proofs.Try.prog := (cok_cons (g63Ok m) (cok_cons (g85Ok m) cok_nil))
theorem g59Fn (m : Nat) : FnOk Go.Proofs.Try.prog 59 g59tp g59bp (fun {α} => g59K (g59 (α := α) m)) :=
  fn_ok (tab := tab) (h := g59h m) (fn := Go.Proofs.Try.f59) (F := fun {α} => g59K (g59 (α := α) m)) tabOk (g59Calls m) mixed (by kernel_rfl) (by kernel_rfl) (fun c hc => by
    rw [bodyOf_some hc]
    exact loopsOk_of _ (fun p hp => by rw [show loopsOf (bodyOf Go.Proofs.Try.f59) = [] by kernel_rfl] at hp; cases hp))
    (fun α ls k => g59Main (g63 m) (g85 m) ls k)
theorem g59Ok (m : Nat) : RowOk Go.Proofs.Try.prog 59 (fun {α} => rowK g59tp g59bp (g59K (g59 (α := α) m))) := row_of (g59Fn m)

/-! ### g20: spec.ValidRatio -/
def g20b {α : Type} (G_g59 : {α : Type} → Int → Int → (Bool → Option α) → Option α)  (p89 : Int) (p90 : Int) (k111 : Bool → Option α) : Option α :=
  G_g59 p89 p90
    (fun b110 =>
      k111 b110)
def g20 {α : Type} (m : Nat) : Int → Int → (Bool → Option α) → Option α :=
  g20b (g59 m)
def g20tp : List TP := [(.vl (.agg [(.one (.int .i64)), (.one (.int .i64))]))]
def g20bp : List BP := []
def g20K {α : Type} (G : Int → Int → (Bool → Option α) → Option α) (ls : List Lf) (k : TV → List (List Seg) → List (List Seg) → Option α) : Option α :=
  G (lf ls 0).int (lf ls 1).int
    (fun y0 => k (.vl (.sv (.bool y0))) [] [])
def g20hd (G_g59 : {α : Type} → Int → Int → (Bool → Option α) → Option α)  : Hd where
  call := fun f args Bs k => cond (Nat.beq f 59) (rowK g59tp g59bp (g59K G_g59) args Bs k) (none)
  loop := fun id st k => none
  ro := fun f => cond (Nat.beq f 59) [0] ([])
def g20h (m : Nat) : Hd := g20hd (g59 m)
theorem g20Main (G_g59 : {α : Type} → Int → Int → (Bool → Option α) → Option α)  {α : Type} (ls : List Lf) (k : TV → List (List Seg) → List (List Seg) → Option α) :
    g20K (g20b G_g59) ls k = evFun tab (g20hd G_g59) Go.Proofs.Try.f20 (fillT g20tp ls).1 (fillB g20bp (fillT g20tp ls).2).1 k := by kernel_rfl
theorem g20Calls (m : Nat) : (g20h m).CallsOk Go.Proofs.Try.prog := (cok_cons (g59Ok m) cok_nil)
theorem g20Fn (m : Nat) : FnOk Go.Proofs.Try.prog 20 g20tp g20bp (fun {α} => g20K (g20 (α := α) m)) :=
  fn_ok (tab := tab) (h := g20h m) (fn := Go.Proofs.Try.f20) (F := fun {α} => g20K (g20 (α := α) m)) tabOk (g20Calls m) mixed (by kernel_rfl) (by kernel_rfl) (fun c hc => by
    rw [bodyOf_some hc]
    exact loopsOk_of _ (fun p hp => by rw [show loopsOf (bodyOf Go.Proofs.Try.f20) = [] by kernel_rfl] at hp; cases hp))
    (fun α ls k => g20Main (g59 m) ls k)
theorem g20Ok (m : Nat) : RowOk Go.Proofs.Try.prog 20 (fun {α} => rowK g20tp g20bp (g20K (g20 (α := α) m))) := row_of (g20Fn m)

/-! ### g60: impl.common -/
def g60l2b {α : Type}   (m134 : Nat) (m135 : Nat) (m136 : Nat) (v137 : Int) (v138 : Int) (a139 : List Int) (k142 : Int → Option α) (r143 : Int → Int → Option α) (v132 : Int) (v133 : Int) : Option α :=
  cond (v133 != (0 : Int))
   (
    if v133 = 0 then
      none
    else
      r143 v133 (Int.tmod v132 v133))
   (
    k142 v132)
def g60l2 {α : Type}   (m134 : Nat) (m135 : Nat) (m136 : Nat) (v137 : Int) (v138 : Int) (a139 : List Int) (k142 : Int → Option α) : Nat → Int → Int → Option α
  | 0 => fun _ _ => none
  | m + 1 => fun v132 v133 => g60l2b m134 m135 m136 v137 v138 a139 k142 (g60l2 m134 m135 m136 v137 v138 a139 k142 m) v132 v133
def g60l2M {α : Type} (m : Nat) : Nat → Nat → Nat → Int → Int → (List Int) → (Int → Option α) → Int → Int → Option α :=
  fun m134 m135 m136 v137 v138 a139 k142 v132 v133 => g60l2 m134 m135 m136 v137 v138 a139 k142 m v132 v133
def g60l2D : LoopD := { n := 24, sl := [3, 5, 6, 7, 8], bl := [0], tp := [(.vl (.sv (.int .i64))), (.vl (.sv (.int .i64))), (.vl (.sv (.slc 0 0 1))), (.vl (.sv (.int .i64))), (.vl (.sv (.int .i64)))], bp := [(false, [(.seq (.int .i64) 2)])], xs := [(4, [3, 6, 7, 8], [0])] }
def g60l2K {α : Type} (L : Nat → Nat → Nat → Int → Int → (List Int) → (Int → Option α) → Int → Int → Option α) (ls : List Lf) (k : Ex → St → Option α) : Option α :=
  L (lf ls 2).nat (lf ls 3).nat (lf ls 4).nat (lf ls 5).int (lf ls 6).int ((lf ls 7).lst (.int .i64))
    (fun y0 => k .normal (mkSt 24 [3, 6, 7, 8] [(.vl (.sv (.int .i64 y0))), (.vl (.sv (.slc 0 0 1 (lf ls 2).nat (lf ls 3).nat (lf ls 4).nat))), (.vl (.sv (.int .i64 (lf ls 5).int))), (.vl (.sv (.int .i64 (lf ls 6).int)))] [0] [(false, [(.seq (.int .i64) 2 ((lf ls 7).lst (.int .i64)))])]))
    (lf ls 0).int (lf ls 1).int
def g60l0b {α : Type}  (L_g60l2 : {α : Type} → Nat → Nat → Nat → Int → Int → (List Int) → (Int → Option α) → Int → Int → Option α) (m122 : Nat) (m123 : Nat) (m124 : Nat) (v125 : Int) (a127 : List Int) (k146 : Int → Option α) (r147 : Int → Int → Option α) (v121 : Int) (v126 : Int) : Option α :=
  cond (decide (v126 < v125))
   (
    if 0 ≤ v126 ∧ v126 < (m123 : Nat) then
      if (m122 + v126.toNat) < 2 then
        let x129 : Int := List.getD a127 (m122 + v126.toNat) 0
        L_g60l2 m122 m123 m124 v125 v126 a127
          (fun x144 =>
            r147 x144 (IntKind.wrap .i64 (v126 + (1 : Int))))
          v121 (imax x129 (IntKind.wrap .i64 (0 - x129)))
      else
        none
    else
      none)
   (
    k146 v121)
def g60l0 {α : Type}  (L_g60l2 : {α : Type} → Nat → Nat → Nat → Int → Int → (List Int) → (Int → Option α) → Int → Int → Option α) (m122 : Nat) (m123 : Nat) (m124 : Nat) (v125 : Int) (a127 : List Int) (k146 : Int → Option α) : Nat → Int → Int → Option α
  | 0 => fun _ _ => none
  | m + 1 => fun v121 v126 => g60l0b L_g60l2 m122 m123 m124 v125 a127 k146 (g60l0 L_g60l2 m122 m123 m124 v125 a127 k146 m) v121 v126
def g60l0M {α : Type} (m : Nat) : Nat → Nat → Nat → Int → (List Int) → (Int → Option α) → Int → Int → Option α :=
  fun m122 m123 m124 v125 a127 k146 v121 v126 => g60l0 (g60l2M m) m122 m123 m124 v125 a127 k146 m v121 v126
def g60l0D : LoopD := { n := 24, sl := [3, 6, 7, 8], bl := [0], tp := [(.vl (.sv (.int .i64))), (.vl (.sv (.slc 0 0 1))), (.vl (.sv (.int .i64))), (.vl (.sv (.int .i64)))], bp := [(false, [(.seq (.int .i64) 2)])], xs := [(2, [3], [0])] }
def g60l0K {α : Type} (L : Nat → Nat → Nat → Int → (List Int) → (Int → Option α) → Int → Int → Option α) (ls : List Lf) (k : Ex → St → Option α) : Option α :=
  L (lf ls 1).nat (lf ls 2).nat (lf ls 3).nat (lf ls 4).int ((lf ls 6).lst (.int .i64))
    (fun y0 => k .normal (mkSt 24 [3] [(.vl (.sv (.int .i64 y0)))] [0] [(false, [(.seq (.int .i64) 2 ((lf ls 6).lst (.int .i64)))])]))
    (lf ls 0).int (lf ls 5).int
def g60b {α : Type}  (L_g60l2 : {α : Type} → Nat → Nat → Nat → Int → Int → (List Int) → (Int → Option α) → Int → Int → Option α) (L_g60l0 : {α : Type} → Nat → Nat → Nat → Int → (List Int) → (Int → Option α) → Int → Int → Option α) (m117 : Nat) (m118 : Nat) (m119 : Nat) (u120 : List Int) (k149 : Int → Option α) : Option α :=
  L_g60l0 m117 m118 m119 ((m118 : Nat) : Int) u120
    (fun x148 =>
      k149 x148)
    (0 : Int) (0 : Int)
def g60 {α : Type} (m : Nat) : Nat → Nat → Nat → (List Int) → (Int → Option α) → Option α :=
  g60b (g60l2M m) (g60l0M m)
def g60tp : List TP := [(.vl (.sv (.slc 0 0 1)))]
def g60bp : List BP := [(false, [(.seq (.int .i64) 2)])]
def g60K {α : Type} (G : Nat → Nat → Nat → (List Int) → (Int → Option α) → Option α) (ls : List Lf) (k : TV → List (List Seg) → List (List Seg) → Option α) : Option α :=
  G (lf ls 0).nat (lf ls 1).nat (lf ls 2).nat ((lf ls 3).lst (.int .i64))
    (fun y0 => k (.vl (.sv (.int .i64 y0))) [[(.seq (.int .i64) 2 ((lf ls 3).lst (.int .i64)))]] [])
def g60hd  (L_g60l2 : {α : Type} → Nat → Nat → Nat → Int → Int → (List Int) → (Int → Option α) → Int → Int → Option α) (L_g60l0 : {α : Type} → Nat → Nat → Nat → Int → (List Int) → (Int → Option α) → Int → Int → Option α) : Hd where
  call := fun f args Bs k => none
  loop := fun id st k => cond (Nat.beq id 2) (loopH g60l2D (g60l2K L_g60l2) st k) (cond (Nat.beq id 0) (loopH g60l0D (g60l0K L_g60l0) st k) (none))
  ro := fun f => []
def g60h (m : Nat) : Hd := g60hd (g60l2M m) (g60l0M m)
theorem g60l2Step  (L_g60l2 : {α : Type} → Nat → Nat → Nat → Int → Int → (List Int) → (Int → Option α) → Int → Int → Option α) (L_g60l0 : {α : Type} → Nat → Nat → Nat → Int → (List Int) → (Int → Option α) → Int → Int → Option α) {α : Type} (L : Nat → Nat → Nat → Int → Int → (List Int) → (Int → Option α) → Int → Int → Option α) (ls : List Lf) (k : Ex → St → Option α) :
    g60l2K (fun m134 m135 m136 v137 v138 a139 k142 v132 v133 => g60l2b m134 m135 m136 v137 v138 a139 k142 (L m134 m135 m136 v137 v138 a139 k142) v132 v133) ls k = ev tab (g60hd L_g60l2 L_g60l0) (bodyAt Go.Proofs.Try.f60 2) (atHead g60l2D ls) (loopK g60l2D 2 (loopH g60l2D (g60l2K L)) k) := by kernel_rfl
theorem g60l0Step  (L_g60l2 : {α : Type} → Nat → Nat → Nat → Int → Int → (List Int) → (Int → Option α) → Int → Int → Option α) (L_g60l0 : {α : Type} → Nat → Nat → Nat → Int → (List Int) → (Int → Option α) → Int → Int → Option α) {α : Type} (L : Nat → Nat → Nat → Int → (List Int) → (Int → Option α) → Int → Int → Option α) (ls : List Lf) (k : Ex → St → Option α) :
    g60l0K (fun m122 m123 m124 v125 a127 k146 v121 v126 => g60l0b L_g60l2 m122 m123 m124 v125 a127 k146 (L m122 m123 m124 v125 a127 k146) v121 v126) ls k = ev tab (g60hd L_g60l2 L_g60l0) (bodyAt Go.Proofs.Try.f60 0) (atHead g60l0D ls) (loopK g60l0D 0 (loopH g60l0D (g60l0K L)) k) := by kernel_rfl
theorem g60Main  (L_g60l2 : {α : Type} → Nat → Nat → Nat → Int → Int → (List Int) → (Int → Option α) → Int → Int → Option α) (L_g60l0 : {α : Type} → Nat → Nat → Nat → Int → (List Int) → (Int → Option α) → Int → Int → Option α) {α : Type} (ls : List Lf) (k : TV → List (List Seg) → List (List Seg) → Option α) :
    g60K (g60b L_g60l2 L_g60l0) ls k = evFun tab (g60hd L_g60l2 L_g60l0) Go.Proofs.Try.f60 (fillT g60tp ls).1 (fillB g60bp (fillT g60tp ls).2).1 k := by kernel_rfl
theorem g60Calls (m : Nat) : (g60h m).CallsOk Go.Proofs.Try.prog := cok_nil
theorem g60l2Ok (m : Nat) (α : Type) (st : St) (k : Ex → St → Option α) (r : α) (h : (g60h m).loop 2 st k = some r) :
    ∃ e st', k e st' = some r ∧ CodeS Go.Proofs.Try.prog (.block 2 (.loop (bodyAt Go.Proofs.Try.f60 2))) st e st' :=
  loop_ok (tab := tab) (h := g60h m) (F := fun n ls k => g60l2K (fun m134 m135 m136 v137 v138 a139 k142 v132 v133 => g60l2 m134 m135 m136 v137 v138 a139 k142 n v132 v133) ls k) tabOk (g60Calls m) mixed (loopsOk_of _ (fun p hp => by rw [show loopsOf (bodyAt Go.Proofs.Try.f60 2) = [] by kernel_rfl] at hp; cases hp))
    (fun _ _ => rfl) (fun n ls k => g60l2Step (g60l2M m) (g60l0M m) (fun m134 m135 m136 v137 v138 a139 k142 => g60l2 m134 m135 m136 v137 v138 a139 k142 n) ls k) (n := m) h
theorem g60l0Ok (m : Nat) (α : Type) (st : St) (k : Ex → St → Option α) (r : α) (h : (g60h m).loop 0 st k = some r) :
    ∃ e st', k e st' = some r ∧ CodeS Go.Proofs.Try.prog (.block 0 (.loop (bodyAt Go.Proofs.Try.f60 0))) st e st' :=
  loop_ok (tab := tab) (h := g60h m) (F := fun n ls k => g60l0K (fun m122 m123 m124 v125 a127 k146 v121 v126 => g60l0 (g60l2M m) m122 m123 m124 v125 a127 k146 n v121 v126) ls k) tabOk (g60Calls m) mixed (loopsOk_of _ (fun p hp => by
    rw [show loopsOf (bodyAt Go.Proofs.Try.f60 0) = [(2, bodyAt Go.Proofs.Try.f60 2)] by kernel_rfl] at hp
    simp only [List.mem_cons, List.not_mem_nil, or_false] at hp
    rcases hp with rfl
    exact g60l2Ok m))
    (fun _ _ => rfl) (fun n ls k => g60l0Step (g60l2M m) (g60l0M m) (fun m122 m123 m124 v125 a127 k146 => g60l0 (g60l2M m) m122 m123 m124 v125 a127 k146 n) ls k) (n := m) h
theorem g60Fn (m : Nat) : FnOk Go.Proofs.Try.prog 60 g60tp g60bp (fun {α} => g60K (g60 (α := α) m)) :=
  fn_ok (tab := tab) (h := g60h m) (fn := Go.Proofs.Try.f60) (F := fun {α} => g60K (g60 (α := α) m)) tabOk (g60Calls m) mixed (by kernel_rfl) (by kernel_rfl) (fun c hc => by
    rw [bodyOf_some hc]
    exact loopsOk_of _ (fun p hp => by
    rw [show loopsOf (bodyOf Go.Proofs.Try.f60) = [(0, bodyAt Go.Proofs.Try.f60 0)] by kernel_rfl] at hp
    simp only [List.mem_cons, List.not_mem_nil, or_false] at hp
    rcases hp with rfl
    exact g60l0Ok m))
    (fun α ls k => g60Main (g60l2M m) (g60l0M m) ls k)
theorem g60Ok (m : Nat) : RowOk Go.Proofs.Try.prog 60 (fun {α} => rowK g60tp g60bp (g60K (g60 (α := α) m))) := row_of (g60Fn m)

/-! ### g22: impl.ValidRatio -/
def g22b {α : Type} (G_g58 : {α : Type} → Int → Int → Int → (Bool → Option α) → Option α) (G_g60 : {α : Type} → Nat → Nat → Nat → (List Int) → (Int → Option α) → Option α)  (p113 : Int) (p114 : Int) (k152 : Bool → Option α) : Option α :=
  G_g58 p114 (1 : Int) (2147483648 : Int)
    (fun b115 =>
      cond b115
       (
        G_g58 p113 (-2147483648 : Int) (2147483648 : Int)
          (fun b116 =>
            cond b116
             (
              G_g60 0 2 2 [p113, p114]
                (fun x150 =>
                  k152 (x150 == (1 : Int))))
             (
              k152 false)))
       (
        k152 false))
def g22 {α : Type} (m : Nat) : Int → Int → (Bool → Option α) → Option α :=
  g22b (g58 m) (g60 m)
def g22tp : List TP := [(.vl (.agg [(.one (.int .i64)), (.one (.int .i64))]))]
def g22bp : List BP := []
def g22K {α : Type} (G : Int → Int → (Bool → Option α) → Option α) (ls : List Lf) (k : TV → List (List Seg) → List (List Seg) → Option α) : Option α :=
  G (lf ls 0).int (lf ls 1).int
    (fun y0 => k (.vl (.sv (.bool y0))) [] [])
def g22hd (G_g58 : {α : Type} → Int → Int → Int → (Bool → Option α) → Option α) (G_g60 : {α : Type} → Nat → Nat → Nat → (List Int) → (Int → Option α) → Option α)  : Hd where
  call := fun f args Bs k => cond (Nat.beq f 58) (rowK g58tp g58bp (g58K G_g58) args Bs k) (cond (Nat.beq f 60) (rowK g60tp g60bp (g60K G_g60) args Bs k) (none))
  loop := fun id st k => none
  ro := fun f => cond (Nat.beq f 60) [0] ([])
def g22h (m : Nat) : Hd := g22hd (g58 m) (g60 m)
theorem g22Main (G_g58 : {α : Type} → Int → Int → Int → (Bool → Option α) → Option α) (G_g60 : {α : Type} → Nat → Nat → Nat → (List Int) → (Int → Option α) → Option α)  {α : Type} (ls : List Lf) (k : TV → List (List Seg) → List (List Seg) → Option α) :
    g22K (g22b G_g58 G_g60) ls k = evFun tab (g22hd G_g58 G_g60) Go.Proofs.Try.f22 (fillT g22tp ls).1 (fillB g22bp (fillT g22tp ls).2).1 k := by kernel_rfl
theorem g22Calls (m : Nat) : (g22h m).CallsOk Go.Proofs.Try.prog := (cok_cons (g58Ok m) (cok_cons (g60Ok m) cok_nil))
theorem g22Fn (m : Nat) : FnOk Go.Proofs.Try.prog 22 g22tp g22bp (fun {α} => g22K (g22 (α := α) m)) :=
  fn_ok (tab := tab) (h := g22h m) (fn := Go.Proofs.Try.f22) (F := fun {α} => g22K (g22 (α := α) m)) tabOk (g22Calls m) mixed (by kernel_rfl) (by kernel_rfl) (fun c hc => by
    rw [bodyOf_some hc]
    exact loopsOk_of _ (fun p hp => by rw [show loopsOf (bodyOf Go.Proofs.Try.f22) = [] by kernel_rfl] at hp; cases hp))
    (fun α ls k => g22Main (g58 m) (g60 m) ls k)
theorem g22Ok (m : Nat) : RowOk Go.Proofs.Try.prog 22 (fun {α} => rowK g22tp g22bp (g22K (g22 (α := α) m))) := row_of (g22Fn m)

/-! ### g4: laws.FnExactValidRatio -/
def g4b {α : Type} (G_g21 : {α : Type} → Int → Int → (Option α) → Option α) (G_g20 : {α : Type} → Int → Int → (Bool → Option α) → Option α) (G_g22 : {α : Type} → Int → Int → (Bool → Option α) → Option α)  (p84 : Int) (p85 : Int) (k155 : Bool → Option α) : Option α :=
  G_g21 p84 p85
    (
      G_g20 p84 p85
        (fun b112 =>
          G_g21 p84 p85
            (
              G_g22 p84 p85
                (fun b153 =>
                  cond (!(b153 == b112))
                   (
                    k155 false)
                   (
                    k155 true)))))
def g4 {α : Type} (m : Nat) : Int → Int → (Bool → Option α) → Option α :=
  g4b (g21 m) (g20 m) (g22 m)
def g4tp : List TP := [(.vl (.agg [(.one (.int .i64)), (.one (.int .i64))]))]
def g4bp : List BP := []
def g4K {α : Type} (G : Int → Int → (Bool → Option α) → Option α) (ls : List Lf) (k : TV → List (List Seg) → List (List Seg) → Option α) : Option α :=
  G (lf ls 0).int (lf ls 1).int
    (fun y0 => k (.vl (.sv (.bool y0))) [] [])
def g4hd (G_g21 : {α : Type} → Int → Int → (Option α) → Option α) (G_g20 : {α : Type} → Int → Int → (Bool → Option α) → Option α) (G_g22 : {α : Type} → Int → Int → (Bool → Option α) → Option α)  : Hd where
  call := fun f args Bs k => cond (Nat.beq f 21) (rowK g21tp g21bp (g21K G_g21) args Bs k) (cond (Nat.beq f 20) (rowK g20tp g20bp (g20K G_g20) args Bs k) (cond (Nat.beq f 22) (rowK g22tp g22bp (g22K G_g22) args Bs k) (none)))
  loop := fun id st k => none
  ro := fun f => []
def g4h (m : Nat) : Hd := g4hd (g21 m) (g20 m) (g22 m)
theorem g4Main (G_g21 : {α : Type} → Int → Int → (Option α) → Option α) (G_g20 : {α : Type} → Int → Int → (Bool → Option α) → Option α) (G_g22 : {α : Type} → Int → Int → (Bool → Option α) → Option α)  {α : Type} (ls : List Lf) (k : TV → List (List Seg) → List (List Seg) → Option α) :
    g4K (g4b G_g21 G_g20 G_g22) ls k = evFun tab (g4hd G_g21 G_g20 G_g22) Go.Proofs.Try.f4 (fillT g4tp ls).1 (fillB g4bp (fillT g4tp ls).2).1 k := by kernel_rfl
theorem g4Calls (m : Nat) : (g4h m).CallsOk Go.Proofs.Try.prog := (cok_cons (g21Ok m) (cok_cons (g20Ok m) (cok_cons (g22Ok m) cok_nil)))
theorem g4Fn (m : Nat) : FnOk Go.Proofs.Try.prog 4 g4tp g4bp (fun {α} => g4K (g4 (α := α) m)) :=
  fn_ok (tab := tab) (h := g4h m) (fn := Go.Proofs.Try.f4) (F := fun {α} => g4K (g4 (α := α) m)) tabOk (g4Calls m) mixed (by kernel_rfl) (by kernel_rfl) (fun c hc => by
    rw [bodyOf_some hc]
    exact loopsOk_of _ (fun p hp => by rw [show loopsOf (bodyOf Go.Proofs.Try.f4) = [] by kernel_rfl] at hp; cases hp))
    (fun α ls k => g4Main (g21 m) (g20 m) (g22 m) ls k)
theorem g4Ok (m : Nat) : RowOk Go.Proofs.Try.prog 4 (fun {α} => rowK g4tp g4bp (g4K (g4 (α := α) m))) := row_of (g4Fn m)

/-! ### g61: spec.l03Order -/
def g61b {α : Type}   (p168 : Int) (p169 : Int) (p170 : Int) (p171 : Int) (k176 : Int → Option α) : Option α :=
  let x172 : Int := IntKind.wrap .i64 (p168 * p171)
  let x173 : Int := IntKind.wrap .i64 (p170 * p169)
  cond (decide (x172 < x173))
   (
    k176 (-1 : Int))
   (
    cond (decide (x172 > x173))
     (
      k176 (1 : Int))
     (
      k176 (0 : Int)))
def g61 {α : Type} (m : Nat) : Int → Int → Int → Int → (Int → Option α) → Option α :=
  g61b
def g61tp : List TP := [(.vl (.sv (.ptr 0 0))), (.vl (.sv (.ptr 1 0)))]
def g61bp : List BP := [(false, [(.one (.int .i64)), (.one (.int .i64))]), (false, [(.one (.int .i64)), (.one (.int .i64))])]
def g61K {α : Type} (G : Int → Int → Int → Int → (Int → Option α) → Option α) (ls : List Lf) (k : TV → List (List Seg) → List (List Seg) → Option α) : Option α :=
  G (lf ls 0).int (lf ls 1).int (lf ls 2).int (lf ls 3).int
    (fun y0 => k (.vl (.sv (.int .i64 y0))) [[(.one (.int .i64 (lf ls 0).int)), (.one (.int .i64 (lf ls 1).int))], [(.one (.int .i64 (lf ls 2).int)), (.one (.int .i64 (lf ls 3).int))]] [])
def g61hd   : Hd where
  call := fun f args Bs k => none
  loop := fun id st k => none
  ro := fun f => []
def g61h (m : Nat) : Hd := g61hd
theorem g61Main   {α : Type} (ls : List Lf) (k : TV → List (List Seg) → List (List Seg) → Option α) :
    g61K (g61b) ls k = evFun tab (g61hd) Go.Proofs.Try.f61 (fillT g61tp ls).1 (fillB g61bp (fillT g61tp ls).2).1 k := by kernel_rfl
theorem g61Calls (m : Nat) : (g61h m).CallsOk Go.Proofs.Try.prog := cok_nil
theorem g61Fn (m : Nat) : FnOk Go.Proofs.Try.prog 61 g61tp g61bp (fun {α} => g61K (g61 (α := α) m)) :=
  fn_ok (tab := tab) (h := g61h m) (fn := Go.Proofs.Try.f61) (F := fun {α} => g61K (g61 (α := α) m)) tabOk (g61Calls m) mixed (by kernel_rfl) (by kernel_rfl) (fun c hc => by
    rw [bodyOf_some hc]
    exact loopsOk_of _ (fun p hp => by rw [show loopsOf (bodyOf Go.Proofs.Try.f61) = [] by kernel_rfl] at hp; cases hp))
    (fun α ls k => g61Main ls k)
theorem g61Ok (m : Nat) : RowOk Go.Proofs.Try.prog 61 (fun {α} => rowK g61tp g61bp (g61K (g61 (α := α) m))) := row_of (g61Fn m)

/-! ### g23: spec.CompareRatios -/
def g23b {α : Type} (G_g59 : {α : Type} → Int → Int → (Bool → Option α) → Option α) (G_g61 : {α : Type} → Int → Int → Int → Int → (Int → Option α) → Option α)  (p160 : Int) (p161 : Int) (p162 : Int) (p163 : Int) (k178 : Int → Int → Option α) : Option α :=
  G_g59 p160 p161
    (fun b164 =>
      cond (!b164)
       (
        k178 (0 : Int) (1 : Int))
       (
        G_g59 p162 p163
          (fun b166 =>
            cond (!b166)
             (
              k178 (0 : Int) (1 : Int))
             (
              G_g61 p160 p161 p162 p163
                (fun x177 =>
                  k178 x177 (0 : Int))))))
def g23 {α : Type} (m : Nat) : Int → Int → Int → Int → (Int → Int → Option α) → Option α :=
  g23b (g59 m) (g61 m)
def g23tp : List TP := [(.vl (.agg [(.one (.int .i64)), (.one (.int .i64))])), (.vl (.agg [(.one (.int .i64)), (.one (.int .i64))]))]
def g23bp : List BP := []
def g23K {α : Type} (G : Int → Int → Int → Int → (Int → Int → Option α) → Option α) (ls : List Lf) (k : TV → List (List Seg) → List (List Seg) → Option α) : Option α :=
  G (lf ls 0).int (lf ls 1).int (lf ls 2).int (lf ls 3).int
    (fun y0 y1 => k (.tup [(.sv (.int .i64 y0)), (.sv (.int .i64 y1))]) [] [])
def g23hd (G_g59 : {α : Type} → Int → Int → (Bool → Option α) → Option α) (G_g61 : {α : Type} → Int → Int → Int → Int → (Int → Option α) → Option α)  : Hd where
  call := fun f args Bs k => cond (Nat.beq f 59) (rowK g59tp g59bp (g59K G_g59) args Bs k) (cond (Nat.beq f 61) (rowK g61tp g61bp (g61K G_g61) args Bs k) (none))
  loop := fun id st k => none
  ro := fun f => cond (Nat.beq f 59) [0] (cond (Nat.beq f 61) [0, 1] ([]))
def g23h (m : Nat) : Hd := g23hd (g59 m) (g61 m)
theorem g23Main (G_g59 : {α : Type} → Int → Int → (Bool → Option α) → Option α) (G_g61 : {α : Type} → Int → Int → Int → Int → (Int → Option α) → Option α)  {α : Type} (ls : List Lf) (k : TV → List (List Seg) → List (List Seg) → Option α) :
    g23K (g23b G_g59 G_g61) ls k = evFun tab (g23hd G_g59 G_g61) Go.Proofs.Try.f23 (fillT g23tp ls).1 (fillB g23bp (fillT g23tp ls).2).1 k := by kernel_rfl
theorem g23Calls (m : Nat) : (g23h m).CallsOk Go.Proofs.Try.prog := (cok_cons (g59Ok m) (cok_cons (g61Ok m) cok_nil))
theorem g23Fn (m : Nat) : FnOk Go.Proofs.Try.prog 23 g23tp g23bp (fun {α} => g23K (g23 (α := α) m)) :=
  fn_ok (tab := tab) (h := g23h m) (fn := Go.Proofs.Try.f23) (F := fun {α} => g23K (g23 (α := α) m)) tabOk (g23Calls m) mixed (by kernel_rfl) (by kernel_rfl) (fun c hc => by
    rw [bodyOf_some hc]
    exact loopsOk_of _ (fun p hp => by rw [show loopsOf (bodyOf Go.Proofs.Try.f23) = [] by kernel_rfl] at hp; cases hp))
    (fun α ls k => g23Main (g59 m) (g61 m) ls k)
theorem g23Ok (m : Nat) : RowOk Go.Proofs.Try.prog 23 (fun {α} => rowK g23tp g23bp (g23K (g23 (α := α) m))) := row_of (g23Fn m)

/-! ### g62: impl.order -/
def g62b {α : Type}   (p191 : Int) (p192 : Int) (k195 : Int → Option α) : Option α :=
  cond (decide (p191 < p192))
   (
    k195 (-1 : Int))
   (
    cond (decide (p191 > p192))
     (
      k195 (1 : Int))
     (
      k195 (0 : Int)))
def g62 {α : Type} (m : Nat) : Int → Int → (Int → Option α) → Option α :=
  g62b
def g62tp : List TP := [(.vl (.sv (.int .i64))), (.vl (.sv (.int .i64)))]
def g62bp : List BP := []
def g62K {α : Type} (G : Int → Int → (Int → Option α) → Option α) (ls : List Lf) (k : TV → List (List Seg) → List (List Seg) → Option α) : Option α :=
  G (lf ls 0).int (lf ls 1).int
    (fun y0 => k (.vl (.sv (.int .i64 y0))) [] [])
def g62hd   : Hd where
  call := fun f args Bs k => none
  loop := fun id st k => none
  ro := fun f => []
def g62h (m : Nat) : Hd := g62hd
theorem g62Main   {α : Type} (ls : List Lf) (k : TV → List (List Seg) → List (List Seg) → Option α) :
    g62K (g62b) ls k = evFun tab (g62hd) Go.Proofs.Try.f62 (fillT g62tp ls).1 (fillB g62bp (fillT g62tp ls).2).1 k := by kernel_rfl
theorem g62Calls (m : Nat) : (g62h m).CallsOk Go.Proofs.Try.prog := cok_nil
theorem g62Fn (m : Nat) : FnOk Go.Proofs.Try.prog 62 g62tp g62bp (fun {α} => g62K (g62 (α := α) m)) :=
  fn_ok (tab := tab) (h := g62h m) (fn := Go.Proofs.Try.f62) (F := fun {α} => g62K (g62 (α := α) m)) tabOk (g62Calls m) mixed (by kernel_rfl) (by kernel_rfl) (fun c hc => by
    rw [bodyOf_some hc]
    exact loopsOk_of _ (fun p hp => by rw [show loopsOf (bodyOf Go.Proofs.Try.f62) = [] by kernel_rfl] at hp; cases hp))
    (fun α ls k => g62Main ls k)
theorem g62Ok (m : Nat) : RowOk Go.Proofs.Try.prog 62 (fun {α} => rowK g62tp g62bp (g62K (g62 (α := α) m))) := row_of (g62Fn m)

/-! ### g24: impl.CompareRatios -/
def g24b {α : Type} (G_g22 : {α : Type} → Int → Int → (Bool → Option α) → Option α) (G_g62 : {α : Type} → Int → Int → (Int → Option α) → Option α)  (p181 : Int) (p182 : Int) (p183 : Int) (p184 : Int) (k197 : Int → Int → Option α) : Option α :=
  G_g22 p181 p182
    (fun b185 =>
      cond (!b185)
       (
        k197 (0 : Int) (1 : Int))
       (
        G_g22 p183 p184
          (fun b187 =>
            cond (!b187)
             (
              k197 (0 : Int) (1 : Int))
             (
              G_g62 (IntKind.wrap .i64 (p181 * p184)) (IntKind.wrap .i64 (p183 * p182))
                (fun x196 =>
                  k197 x196 (0 : Int))))))
def g24 {α : Type} (m : Nat) : Int → Int → Int → Int → (Int → Int → Option α) → Option α :=
  g24b (g22 m) (g62 m)
def g24tp : List TP := [(.vl (.agg [(.one (.int .i64)), (.one (.int .i64))])), (.vl (.agg [(.one (.int .i64)), (.one (.int .i64))]))]
def g24bp : List BP := []
def g24K {α : Type} (G : Int → Int → Int → Int → (Int → Int → Option α) → Option α) (ls : List Lf) (k : TV → List (List Seg) → List (List Seg) → Option α) : Option α :=
  G (lf ls 0).int (lf ls 1).int (lf ls 2).int (lf ls 3).int
    (fun y0 y1 => k (.tup [(.sv (.int .i64 y0)), (.sv (.int .i64 y1))]) [] [])
def g24hd (G_g22 : {α : Type} → Int → Int → (Bool → Option α) → Option α) (G_g62 : {α : Type} → Int → Int → (Int → Option α) → Option α)  : Hd where
  call := fun f args Bs k => cond (Nat.beq f 22) (rowK g22tp g22bp (g22K G_g22) args Bs k) (cond (Nat.beq f 62) (rowK g62tp g62bp (g62K G_g62) args Bs k) (none))
  loop := fun id st k => none
  ro := fun f => []
def g24h (m : Nat) : Hd := g24hd (g22 m) (g62 m)
theorem g24Main (G_g22 : {α : Type} → Int → Int → (Bool → Option α) → Option α) (G_g62 : {α : Type} → Int → Int → (Int → Option α) → Option α)  {α : Type} (ls : List Lf) (k : TV → List (List Seg) → List (List Seg) → Option α) :
    g24K (g24b G_g22 G_g62) ls k = evFun tab (g24hd G_g22 G_g62) Go.Proofs.Try.f24 (fillT g24tp ls).1 (fillB g24bp (fillT g24tp ls).2).1 k := by kernel_rfl
theorem g24Calls (m : Nat) : (g24h m).CallsOk Go.Proofs.Try.prog := (cok_cons (g22Ok m) (cok_cons (g62Ok m) cok_nil))
theorem g24Fn (m : Nat) : FnOk Go.Proofs.Try.prog 24 g24tp g24bp (fun {α} => g24K (g24 (α := α) m)) :=
  fn_ok (tab := tab) (h := g24h m) (fn := Go.Proofs.Try.f24) (F := fun {α} => g24K (g24 (α := α) m)) tabOk (g24Calls m) mixed (by kernel_rfl) (by kernel_rfl) (fun c hc => by
    rw [bodyOf_some hc]
    exact loopsOk_of _ (fun p hp => by rw [show loopsOf (bodyOf Go.Proofs.Try.f24) = [] by kernel_rfl] at hp; cases hp))
    (fun α ls k => g24Main (g22 m) (g62 m) ls k)
theorem g24Ok (m : Nat) : RowOk Go.Proofs.Try.prog 24 (fun {α} => rowK g24tp g24bp (g24K (g24 (α := α) m))) := row_of (g24Fn m)

/-! ### g5: laws.FnExactCompareRatios -/
def g5b {α : Type} (G_g21 : {α : Type} → Int → Int → (Option α) → Option α) (G_g23 : {α : Type} → Int → Int → Int → Int → (Int → Int → Option α) → Option α) (G_g24 : {α : Type} → Int → Int → Int → Int → (Int → Int → Option α) → Option α)  (p156 : Int) (p157 : Int) (p158 : Int) (p159 : Int) (k202 : Bool → Option α) : Option α :=
  G_g21 p156 p157
    (
      G_g21 p158 p159
        (
          G_g23 p156 p157 p158 p159
            (fun x179 x180 =>
              G_g21 p156 p157
                (
                  G_g21 p158 p159
                    (
                      G_g24 p156 p157 p158 p159
                        (fun x198 x199 =>
                          cond (x198 != x179)
                           (
                            k202 false)
                           (
                            cond (x199 != x180)
                             (
                              k202 false)
                             (
                              k202 true))))))))
def g5 {α : Type} (m : Nat) : Int → Int → Int → Int → (Bool → Option α) → Option α :=
  g5b (g21 m) (g23 m) (g24 m)
def g5tp : List TP := [(.vl (.agg [(.one (.int .i64)), (.one (.int .i64))])), (.vl (.agg [(.one (.int .i64)), (.one (.int .i64))]))]
def g5bp : List BP := []
def g5K {α : Type} (G : Int → Int → Int → Int → (Bool → Option α) → Option α) (ls : List Lf) (k : TV → List (List Seg) → List (List Seg) → Option α) : Option α :=
  G (lf ls 0).int (lf ls 1).int (lf ls 2).int (lf ls 3).int
    (fun y0 => k (.vl (.sv (.bool y0))) [] [])
def g5hd (G_g21 : {α : Type} → Int → Int → (Option α) → Option α) (G_g23 : {α : Type} → Int → Int → Int → Int → (Int → Int → Option α) → Option α) (G_g24 : {α : Type} → Int → Int → Int → Int → (Int → Int → Option α) → Option α)  : Hd where
  call := fun f args Bs k => cond (Nat.beq f 21) (rowK g21tp g21bp (g21K G_g21) args Bs k) (cond (Nat.beq f 23) (rowK g23tp g23bp (g23K G_g23) args Bs k) (cond (Nat.beq f 24) (rowK g24tp g24bp (g24K G_g24) args Bs k) (none)))
  loop := fun id st k => none
  ro := fun f => []
def g5h (m : Nat) : Hd := g5hd (g21 m) (g23 m) (g24 m)
theorem g5Main (G_g21 : {α : Type} → Int → Int → (Option α) → Option α) (G_g23 : {α : Type} → Int → Int → Int → Int → (Int → Int → Option α) → Option α) (G_g24 : {α : Type} → Int → Int → Int → Int → (Int → Int → Option α) → Option α)  {α : Type} (ls : List Lf) (k : TV → List (List Seg) → List (List Seg) → Option α) :
    g5K (g5b G_g21 G_g23 G_g24) ls k = evFun tab (g5hd G_g21 G_g23 G_g24) Go.Proofs.Try.f5 (fillT g5tp ls).1 (fillB g5bp (fillT g5tp ls).2).1 k := by kernel_rfl
theorem g5Calls (m : Nat) : (g5h m).CallsOk Go.Proofs.Try.prog := (cok_cons (g21Ok m) (cok_cons (g23Ok m) (cok_cons (g24Ok m) cok_nil)))
theorem g5Fn (m : Nat) : FnOk Go.Proofs.Try.prog 5 g5tp g5bp (fun {α} => g5K (g5 (α := α) m)) :=
  fn_ok (tab := tab) (h := g5h m) (fn := Go.Proofs.Try.f5) (F := fun {α} => g5K (g5 (α := α) m)) tabOk (g5Calls m) mixed (by kernel_rfl) (by kernel_rfl) (fun c hc => by
    rw [bodyOf_some hc]
    exact loopsOk_of _ (fun p hp => by rw [show loopsOf (bodyOf Go.Proofs.Try.f5) = [] by kernel_rfl] at hp; cases hp))
    (fun α ls k => g5Main (g21 m) (g23 m) (g24 m) ls k)
theorem g5Ok (m : Nat) : RowOk Go.Proofs.Try.prog 5 (fun {α} => rowK g5tp g5bp (g5K (g5 (α := α) m))) := row_of (g5Fn m)

/-! ### g64: spec.l03Make -/
def g64b {α : Type} (G_g85 : {α : Type} → Int → Int → (Int → Option α) → Option α) (G_g59 : {α : Type} → Int → Int → (Bool → Option α) → Option α)  (p212 : Int) (p213 : Int) (k225 : Int → Int → Int → Option α) : Option α :=
  G_g85 p212 p213
    (fun x214 =>
      cond (decide (p213 < (0 : Int)))
       (
        let x216 : Int := IntKind.wrap .i64 (0 - x214)
        if x216 = 0 then
          none
        else
          let x217 : Int := IntKind.wrap .i64 (Int.tdiv p212 x216)
          if x216 = 0 then
            none
          else
            let x218 : Int := IntKind.wrap .i64 (Int.tdiv p213 x216)
            G_g59 x217 x218
              (fun b219 =>
                cond (!b219)
                 (
                  k225 (0 : Int) (0 : Int) (3 : Int))
                 (
                  k225 x217 x218 (0 : Int))))
       (
        if x214 = 0 then
          none
        else
          let x221 : Int := IntKind.wrap .i64 (Int.tdiv p212 x214)
          if x214 = 0 then
            none
          else
            let x222 : Int := IntKind.wrap .i64 (Int.tdiv p213 x214)
            G_g59 x221 x222
              (fun b223 =>
                cond (!b223)
                 (
                  k225 (0 : Int) (0 : Int) (3 : Int))
                 (
                  k225 x221 x222 (0 : Int)))))
def g64 {α : Type} (m : Nat) : Int → Int → (Int → Int → Int → Option α) → Option α :=
  g64b (g85 m) (g59 m)
def g64tp : List TP := [(.vl (.sv (.int .i64))), (.vl (.sv (.int .i64)))]
def g64bp : List BP := []
def g64K {α : Type} (G : Int → Int → (Int → Int → Int → Option α) → Option α) (ls : List Lf) (k : TV → List (List Seg) → List (List Seg) → Option α) : Option α :=
  G (lf ls 0).int (lf ls 1).int
    (fun y0 y1 y2 => k (.tup [(.agg [(.one (.int .i64 y0)), (.one (.int .i64 y1))]), (.sv (.int .i64 y2))]) [] [])
def g64hd (G_g85 : {α : Type} → Int → Int → (Int → Option α) → Option α) (G_g59 : {α : Type} → Int → Int → (Bool → Option α) → Option α)  : Hd where
  call := fun f args Bs k => cond (Nat.beq f 85) (rowK g85tp g85bp (g85K G_g85) args Bs k) (cond (Nat.beq f 59) (rowK g59tp g59bp (g59K G_g59) args Bs k) (none))
  loop := fun id st k => none
  ro := fun f => cond (Nat.beq f 59) [0] ([])
def g64h (m : Nat) : Hd := g64hd (g85 m) (g59 m)
theorem g64Main (G_g85 : {α : Type} → Int → Int → (Int → Option α) → Option α) (G_g59 : {α : Type} → Int → Int → (Bool → Option α) → Option α)  {α : Type} (ls : List Lf) (k : TV → List (List Seg) → List (List Seg) → Option α) :
    g64K (g64b G_g85 G_g59) ls k = evFun tab (g64hd G_g85 G_g59) Go.Proofs.Try.f64 (fillT g64tp ls).1 (fillB g64bp (fillT g64tp ls).2).1 k := by kernel_rfl
theorem g64Calls (m : Nat) : (g64h m).CallsOk Go.Proofs.Try.prog := (cok_cons (g85Ok m) (cok_cons (g59Ok m) cok_nil))
theorem g64Fn (m : Nat) : FnOk Go.Proofs.Try.prog 64 g64tp g64bp (fun {α} => g64K (g64 (α := α) m)) :=
  fn_ok (tab := tab) (h := g64h m) (fn := Go.Proofs.Try.f64) (F := fun {α} => g64K (g64 (α := α) m)) tabOk (g64Calls m) mixed (by kernel_rfl) (by kernel_rfl) (fun c hc => by
    rw [bodyOf_some hc]
    exact loopsOk_of _ (fun p hp => by rw [show loopsOf (bodyOf Go.Proofs.Try.f64) = [] by kernel_rfl] at hp; cases hp))
    (fun α ls k => g64Main (g85 m) (g59 m) ls k)
theorem g64Ok (m : Nat) : RowOk Go.Proofs.Try.prog 64 (fun {α} => rowK g64tp g64bp (g64K (g64 (α := α) m))) := row_of (g64Fn m)

/-! ### g25: spec.MakeRatio -/
def g25b {α : Type} (G_g63 : {α : Type} → Int → Int → Int → (Bool → Option α) → Option α) (G_g64 : {α : Type} → Int → Int → (Int → Int → Int → Option α) → Option α)  (p205 : Int) (p206 : Int) (k229 : Int → Int → Int → Option α) : Option α :=
  G_g63 p205 (-1000000000000000000 : Int) (1000000000000000000 : Int)
    (fun b207 =>
      cond (!b207)
       (
        k229 (0 : Int) (0 : Int) (3 : Int))
       (
        G_g63 p206 (-1000000000000000000 : Int) (1000000000000000000 : Int)
          (fun b209 =>
            cond (!b209)
             (
              k229 (0 : Int) (0 : Int) (3 : Int))
             (
              cond (p206 == (0 : Int))
               (
                k229 (0 : Int) (0 : Int) (4 : Int))
               (
                G_g64 p205 p206
                  (fun x226 x227 x228 =>
                    k229 x226 x227 x228))))))
def g25 {α : Type} (m : Nat) : Int → Int → (Int → Int → Int → Option α) → Option α :=
  g25b (g63 m) (g64 m)
def g25tp : List TP := [(.vl (.sv (.int .i64))), (.vl (.sv (.int .i64)))]
def g25bp : List BP := []
def g25K {α : Type} (G : Int → Int → (Int → Int → Int → Option α) → Option α) (ls : List Lf) (k : TV → List (List Seg) → List (List Seg) → Option α) : Option α :=
  G (lf ls 0).int (lf ls 1).int
    (fun y0 y1 y2 => k (.tup [(.agg [(.one (.int .i64 y0)), (.one (.int .i64 y1))]), (.sv (.int .i64 y2))]) [] [])
def g25hd (G_g63 : {α : Type} → Int → Int → Int → (Bool → Option α) → Option α) (G_g64 : {α : Type} → Int → Int → (Int → Int → Int → Option α) → Option α)  : Hd where
  call := fun f args Bs k => cond (Nat.beq f 63) (rowK g63tp g63bp (g63K G_g63) args Bs k) (cond (Nat.beq f 64) (rowK g64tp g64bp (g64K G_g64) args Bs k) (none))
  loop := fun id st k => none
  ro := fun f => []
def g25h (m : Nat) : Hd := g25hd (g63 m) (g64 m)
theorem g25Main (G_g63 : {α : Type} → Int → Int → Int → (Bool → Option α) → Option α) (G_g64 : {α : Type} → Int → Int → (Int → Int → Int → Option α) → Option α)  {α : Type} (ls : List Lf) (k : TV → List (List Seg) → List (List Seg) → Option α) :
    g25K (g25b G_g63 G_g64) ls k = evFun tab (g25hd G_g63 G_g64) Go.Proofs.Try.f25 (fillT g25tp ls).1 (fillB g25bp (fillT g25tp ls).2).1 k := by kernel_rfl
theorem g25Calls (m : Nat) : (g25h m).CallsOk Go.Proofs.Try.prog := (cok_cons (g63Ok m) (cok_cons (g64Ok m) cok_nil))
theorem g25Fn (m : Nat) : FnOk Go.Proofs.Try.prog 25 g25tp g25bp (fun {α} => g25K (g25 (α := α) m)) :=
  fn_ok (tab := tab) (h := g25h m) (fn := Go.Proofs.Try.f25) (F := fun {α} => g25K (g25 (α := α) m)) tabOk (g25Calls m) mixed (by kernel_rfl) (by kernel_rfl) (fun c hc => by
    rw [bodyOf_some hc]
    exact loopsOk_of _ (fun p hp => by rw [show loopsOf (bodyOf Go.Proofs.Try.f25) = [] by kernel_rfl] at hp; cases hp))
    (fun α ls k => g25Main (g63 m) (g64 m) ls k)
theorem g25Ok (m : Nat) : RowOk Go.Proofs.Try.prog 25 (fun {α} => rowK g25tp g25bp (g25K (g25 (α := α) m))) := row_of (g25Fn m)

/-! ### g26: impl.MakeRatio -/
def g26b {α : Type} (G_g58 : {α : Type} → Int → Int → Int → (Bool → Option α) → Option α) (G_g60 : {α : Type} → Nat → Nat → Nat → (List Int) → (Int → Option α) → Option α) (G_g22 : {α : Type} → Int → Int → (Bool → Option α) → Option α)  (p233 : Int) (p234 : Int) (k253 : Int → Int → Int → Option α) : Option α :=
  G_g58 p233 (-1000000000000000000 : Int) (1000000000000000000 : Int)
    (fun b235 =>
      cond (!b235)
       (
        k253 (0 : Int) (0 : Int) (3 : Int))
       (
        G_g58 p234 (-1000000000000000000 : Int) (1000000000000000000 : Int)
          (fun b237 =>
            cond (!b237)
             (
              k253 (0 : Int) (0 : Int) (3 : Int))
             (
              cond (p234 == (0 : Int))
               (
                k253 (0 : Int) (0 : Int) (4 : Int))
               (
                cond (decide (p234 < (0 : Int)))
                 (
                  let x241 : Int := IntKind.wrap .i64 (0 - p233)
                  let x242 : Int := IntKind.wrap .i64 (0 - p234)
                  G_g60 0 2 2 [x241, x242]
                    (fun x243 =>
                      if x243 = 0 then
                        none
                      else
                        let x244 : Int := IntKind.wrap .i64 (Int.tdiv x241 x243)
                        if x243 = 0 then
                          none
                        else
                          let x245 : Int := IntKind.wrap .i64 (Int.tdiv x242 x243)
                          G_g22 x244 x245
                            (fun b246 =>
                              cond (!b246)
                               (
                                k253 (0 : Int) (0 : Int) (3 : Int))
                               (
                                k253 x244 x245 (0 : Int)))))
                 (
                  G_g60 0 2 2 [p233, p234]
                    (fun x248 =>
                      if x248 = 0 then
                        none
                      else
                        let x249 : Int := IntKind.wrap .i64 (Int.tdiv p233 x248)
                        if x248 = 0 then
                          none
                        else
                          let x250 : Int := IntKind.wrap .i64 (Int.tdiv p234 x248)
                          G_g22 x249 x250
                            (fun b251 =>
                              cond (!b251)
                               (
                                k253 (0 : Int) (0 : Int) (3 : Int))
                               (
                                k253 x249 x250 (0 : Int))))))))))
def g26 {α : Type} (m : Nat) : Int → Int → (Int → Int → Int → Option α) → Option α :=
  g26b (g58 m) (g60 m) (g22 m)
def g26tp : List TP := [(.vl (.sv (.int .i64))), (.vl (.sv (.int .i64)))]
def g26bp : List BP := []
def g26K {α : Type} (G : Int → Int → (Int → Int → Int → Option α) → Option α) (ls : List Lf) (k : TV → List (List Seg) → List (List Seg) → Option α) : Option α :=
  G (lf ls 0).int (lf ls 1).int
    (fun y0 y1 y2 => k (.tup [(.agg [(.one (.int .i64 y0)), (.one (.int .i64 y1))]), (.sv (.int .i64 y2))]) [] [])
def g26hd (G_g58 : {α : Type} → Int → Int → Int → (Bool → Option α) → Option α) (G_g60 : {α : Type} → Nat → Nat → Nat → (List Int) → (Int → Option α) → Option α) (G_g22 : {α : Type} → Int → Int → (Bool → Option α) → Option α)  : Hd where
  call := fun f args Bs k => cond (Nat.beq f 58) (rowK g58tp g58bp (g58K G_g58) args Bs k) (cond (Nat.beq f 60) (rowK g60tp g60bp (g60K G_g60) args Bs k) (cond (Nat.beq f 22) (rowK g22tp g22bp (g22K G_g22) args Bs k) (none)))
  loop := fun id st k => none
  ro := fun f => cond (Nat.beq f 60) [0] ([])
def g26h (m : Nat) : Hd := g26hd (g58 m) (g60 m) (g22 m)
theorem g26Main (G_g58 : {α : Type} → Int → Int → Int → (Bool → Option α) → Option α) (G_g60 : {α : Type} → Nat → Nat → Nat → (List Int) → (Int → Option α) → Option α) (G_g22 : {α : Type} → Int → Int → (Bool → Option α) → Option α)  {α : Type} (ls : List Lf) (k : TV → List (List Seg) → List (List Seg) → Option α) :
    g26K (g26b G_g58 G_g60 G_g22) ls k = evFun tab (g26hd G_g58 G_g60 G_g22) Go.Proofs.Try.f26 (fillT g26tp ls).1 (fillB g26bp (fillT g26tp ls).2).1 k := by kernel_rfl
theorem g26Calls (m : Nat) : (g26h m).CallsOk Go.Proofs.Try.prog := (cok_cons (g58Ok m) (cok_cons (g60Ok m) (cok_cons (g22Ok m) cok_nil)))
theorem g26Fn (m : Nat) : FnOk Go.Proofs.Try.prog 26 g26tp g26bp (fun {α} => g26K (g26 (α := α) m)) :=
  fn_ok (tab := tab) (h := g26h m) (fn := Go.Proofs.Try.f26) (F := fun {α} => g26K (g26 (α := α) m)) tabOk (g26Calls m) mixed (by kernel_rfl) (by kernel_rfl) (fun c hc => by
    rw [bodyOf_some hc]
    exact loopsOk_of _ (fun p hp => by rw [show loopsOf (bodyOf Go.Proofs.Try.f26) = [] by kernel_rfl] at hp; cases hp))
    (fun α ls k => g26Main (g58 m) (g60 m) (g22 m) ls k)
theorem g26Ok (m : Nat) : RowOk Go.Proofs.Try.prog 26 (fun {α} => rowK g26tp g26bp (g26K (g26 (α := α) m))) := row_of (g26Fn m)

/-! ### g27: laws.eqRatio -/
def g27b {α : Type}   (p257 : Int) (p258 : Int) (p259 : Int) (p260 : Int) (k263 : Bool → Option α) : Option α :=
  cond (p257 != p259)
   (
    k263 false)
   (
    cond (p258 != p260)
     (
      k263 false)
     (
      k263 true))
def g27 {α : Type} (m : Nat) : Int → Int → Int → Int → (Bool → Option α) → Option α :=
  g27b
def g27tp : List TP := [(.vl (.agg [(.one (.int .i64)), (.one (.int .i64))])), (.vl (.agg [(.one (.int .i64)), (.one (.int .i64))]))]
def g27bp : List BP := []
def g27K {α : Type} (G : Int → Int → Int → Int → (Bool → Option α) → Option α) (ls : List Lf) (k : TV → List (List Seg) → List (List Seg) → Option α) : Option α :=
  G (lf ls 0).int (lf ls 1).int (lf ls 2).int (lf ls 3).int
    (fun y0 => k (.vl (.sv (.bool y0))) [] [])
def g27hd   : Hd where
  call := fun f args Bs k => none
  loop := fun id st k => none
  ro := fun f => []
def g27h (m : Nat) : Hd := g27hd
theorem g27Main   {α : Type} (ls : List Lf) (k : TV → List (List Seg) → List (List Seg) → Option α) :
    g27K (g27b) ls k = evFun tab (g27hd) Go.Proofs.Try.f27 (fillT g27tp ls).1 (fillB g27bp (fillT g27tp ls).2).1 k := by kernel_rfl
theorem g27Calls (m : Nat) : (g27h m).CallsOk Go.Proofs.Try.prog := cok_nil
theorem g27Fn (m : Nat) : FnOk Go.Proofs.Try.prog 27 g27tp g27bp (fun {α} => g27K (g27 (α := α) m)) :=
  fn_ok (tab := tab) (h := g27h m) (fn := Go.Proofs.Try.f27) (F := fun {α} => g27K (g27 (α := α) m)) tabOk (g27Calls m) mixed (by kernel_rfl) (by kernel_rfl) (fun c hc => by
    rw [bodyOf_some hc]
    exact loopsOk_of _ (fun p hp => by rw [show loopsOf (bodyOf Go.Proofs.Try.f27) = [] by kernel_rfl] at hp; cases hp))
    (fun α ls k => g27Main ls k)
theorem g27Ok (m : Nat) : RowOk Go.Proofs.Try.prog 27 (fun {α} => rowK g27tp g27bp (g27K (g27 (α := α) m))) := row_of (g27Fn m)

/-! ### g6: laws.FnExactMakeRatio -/
def g6b {α : Type} (G_g25 : {α : Type} → Int → Int → (Int → Int → Int → Option α) → Option α) (G_g26 : {α : Type} → Int → Int → (Int → Int → Int → Option α) → Option α) (G_g27 : {α : Type} → Int → Int → Int → Int → (Bool → Option α) → Option α)  (p203 : Int) (p204 : Int) (k267 : Bool → Option α) : Option α :=
  G_g25 p203 p204
    (fun x230 x231 x232 =>
      G_g26 p203 p204
        (fun x254 x255 x256 =>
          G_g27 x254 x255 x230 x231
            (fun b264 =>
              cond (!b264)
               (
                k267 false)
               (
                cond (x256 != x232)
                 (
                  k267 false)
                 (
                  k267 true)))))
def g6 {α : Type} (m : Nat) : Int → Int → (Bool → Option α) → Option α :=
  g6b (g25 m) (g26 m) (g27 m)
def g6tp : List TP := [(.vl (.sv (.int .i64))), (.vl (.sv (.int .i64)))]
def g6bp : List BP := []
def g6K {α : Type} (G : Int → Int → (Bool → Option α) → Option α) (ls : List Lf) (k : TV → List (List Seg) → List (List Seg) → Option α) : Option α :=
  G (lf ls 0).int (lf ls 1).int
    (fun y0 => k (.vl (.sv (.bool y0))) [] [])
def g6hd (G_g25 : {α : Type} → Int → Int → (Int → Int → Int → Option α) → Option α) (G_g26 : {α : Type} → Int → Int → (Int → Int → Int → Option α) → Option α) (G_g27 : {α : Type} → Int → Int → Int → Int → (Bool → Option α) → Option α)  : Hd where
  call := fun f args Bs k => cond (Nat.beq f 25) (rowK g25tp g25bp (g25K G_g25) args Bs k) (cond (Nat.beq f 26) (rowK g26tp g26bp (g26K G_g26) args Bs k) (cond (Nat.beq f 27) (rowK g27tp g27bp (g27K G_g27) args Bs k) (none)))
  loop := fun id st k => none
  ro := fun f => []
def g6h (m : Nat) : Hd := g6hd (g25 m) (g26 m) (g27 m)
theorem g6Main (G_g25 : {α : Type} → Int → Int → (Int → Int → Int → Option α) → Option α) (G_g26 : {α : Type} → Int → Int → (Int → Int → Int → Option α) → Option α) (G_g27 : {α : Type} → Int → Int → Int → Int → (Bool → Option α) → Option α)  {α : Type} (ls : List Lf) (k : TV → List (List Seg) → List (List Seg) → Option α) :
    g6K (g6b G_g25 G_g26 G_g27) ls k = evFun tab (g6hd G_g25 G_g26 G_g27) Go.Proofs.Try.f6 (fillT g6tp ls).1 (fillB g6bp (fillT g6tp ls).2).1 k := by kernel_rfl
theorem g6Calls (m : Nat) : (g6h m).CallsOk Go.Proofs.Try.prog := (cok_cons (g25Ok m) (cok_cons (g26Ok m) (cok_cons (g27Ok m) cok_nil)))
theorem g6Fn (m : Nat) : FnOk Go.Proofs.Try.prog 6 g6tp g6bp (fun {α} => g6K (g6 (α := α) m)) :=
  fn_ok (tab := tab) (h := g6h m) (fn := Go.Proofs.Try.f6) (F := fun {α} => g6K (g6 (α := α) m)) tabOk (g6Calls m) mixed (by kernel_rfl) (by kernel_rfl) (fun c hc => by
    rw [bodyOf_some hc]
    exact loopsOk_of _ (fun p hp => by rw [show loopsOf (bodyOf Go.Proofs.Try.f6) = [] by kernel_rfl] at hp; cases hp))
    (fun α ls k => g6Main (g25 m) (g26 m) (g27 m) ls k)
theorem g6Ok (m : Nat) : RowOk Go.Proofs.Try.prog 6 (fun {α} => rowK g6tp g6bp (g6K (g6 (α := α) m))) := row_of (g6Fn m)

/-! ### g28: spec.ApplyMoebius -/
def g28b {α : Type} (G_g57 : {α : Type} → Int → Int → Int → Int → (Bool → Option α) → Option α) (G_g59 : {α : Type} → Int → Int → (Bool → Option α) → Option α) (G_g64 : {α : Type} → Int → Int → (Int → Int → Int → Option α) → Option α)  (p274 : Int) (p275 : Int) (p276 : Int) (p277 : Int) (p278 : Int) (p279 : Int) (k294 : Int → Int → Int → Option α) : Option α :=
  G_g57 p274 p275 p276 p277
    (fun b280 =>
      cond (!b280)
       (
        k294 (0 : Int) (0 : Int) (1 : Int))
       (
        G_g59 p278 p279
          (fun b282 =>
            cond (!b282)
             (
              k294 (0 : Int) (0 : Int) (1 : Int))
             (
              let x286 : Int := IntKind.wrap .i64 ((IntKind.wrap .i64 (p276 * p278)) + (IntKind.wrap .i64 (p277 * p279)))
              cond (x286 == (0 : Int))
               (
                k294 (0 : Int) (0 : Int) (4 : Int))
               (
                G_g64 (IntKind.wrap .i64 ((IntKind.wrap .i64 (p274 * p278)) + (IntKind.wrap .i64 (p275 * p279)))) x286
                  (fun x291 x292 x293 =>
                    k294 x291 x292 x293))))))
def g28 {α : Type} (m : Nat) : Int → Int → Int → Int → Int → Int → (Int → Int → Int → Option α) → Option α :=
  g28b (g57 m) (g59 m) (g64 m)
def g28tp : List TP := [(.vl (.agg [(.one (.int .i64)), (.one (.int .i64)), (.one (.int .i64)), (.one (.int .i64))])), (.vl (.agg [(.one (.int .i64)), (.one (.int .i64))]))]
def g28bp : List BP := []
def g28K {α : Type} (G : Int → Int → Int → Int → Int → Int → (Int → Int → Int → Option α) → Option α) (ls : List Lf) (k : TV → List (List Seg) → List (List Seg) → Option α) : Option α :=
  G (lf ls 0).int (lf ls 1).int (lf ls 2).int (lf ls 3).int (lf ls 4).int (lf ls 5).int
    (fun y0 y1 y2 => k (.tup [(.agg [(.one (.int .i64 y0)), (.one (.int .i64 y1))]), (.sv (.int .i64 y2))]) [] [])
def g28hd (G_g57 : {α : Type} → Int → Int → Int → Int → (Bool → Option α) → Option α) (G_g59 : {α : Type} → Int → Int → (Bool → Option α) → Option α) (G_g64 : {α : Type} → Int → Int → (Int → Int → Int → Option α) → Option α)  : Hd where
  call := fun f args Bs k => cond (Nat.beq f 57) (rowK g57tp g57bp (g57K G_g57) args Bs k) (cond (Nat.beq f 59) (rowK g59tp g59bp (g59K G_g59) args Bs k) (cond (Nat.beq f 64) (rowK g64tp g64bp (g64K G_g64) args Bs k) (none)))
  loop := fun id st k => none
  ro := fun f => cond (Nat.beq f 57) [0] (cond (Nat.beq f 59) [0] ([]))
def g28h (m : Nat) : Hd := g28hd (g57 m) (g59 m) (g64 m)
theorem g28Main (G_g57 : {α : Type} → Int → Int → Int → Int → (Bool → Option α) → Option α) (G_g59 : {α : Type} → Int → Int → (Bool → Option α) → Option α) (G_g64 : {α : Type} → Int → Int → (Int → Int → Int → Option α) → Option α)  {α : Type} (ls : List Lf) (k : TV → List (List Seg) → List (List Seg) → Option α) :
    g28K (g28b G_g57 G_g59 G_g64) ls k = evFun tab (g28hd G_g57 G_g59 G_g64) Go.Proofs.Try.f28 (fillT g28tp ls).1 (fillB g28bp (fillT g28tp ls).2).1 k := by kernel_rfl
theorem g28Calls (m : Nat) : (g28h m).CallsOk Go.Proofs.Try.prog := (cok_cons (g57Ok m) (cok_cons (g59Ok m) (cok_cons (g64Ok m) cok_nil)))
theorem g28Fn (m : Nat) : FnOk Go.Proofs.Try.prog 28 g28tp g28bp (fun {α} => g28K (g28 (α := α) m)) :=
  fn_ok (tab := tab) (h := g28h m) (fn := Go.Proofs.Try.f28) (F := fun {α} => g28K (g28 (α := α) m)) tabOk (g28Calls m) mixed (by kernel_rfl) (by kernel_rfl) (fun c hc => by
    rw [bodyOf_some hc]
    exact loopsOk_of _ (fun p hp => by rw [show loopsOf (bodyOf Go.Proofs.Try.f28) = [] by kernel_rfl] at hp; cases hp))
    (fun α ls k => g28Main (g57 m) (g59 m) (g64 m) ls k)
theorem g28Ok (m : Nat) : RowOk Go.Proofs.Try.prog 28 (fun {α} => rowK g28tp g28bp (g28K (g28 (α := α) m))) := row_of (g28Fn m)

/-! ### g29: impl.ApplyMoebius -/
def g29b {α : Type} (G_g19 : {α : Type} → Int → Int → Int → Int → (Bool → Option α) → Option α) (G_g22 : {α : Type} → Int → Int → (Bool → Option α) → Option α) (G_g26 : {α : Type} → Int → Int → (Int → Int → Int → Option α) → Option α)  (p298 : Int) (p299 : Int) (p300 : Int) (p301 : Int) (p302 : Int) (p303 : Int) (k317 : Int → Int → Int → Option α) : Option α :=
  G_g19 p298 p299 p300 p301
    (fun b304 =>
      cond (!b304)
       (
        k317 (0 : Int) (0 : Int) (1 : Int))
       (
        G_g22 p302 p303
          (fun b306 =>
            cond (!b306)
             (
              k317 (0 : Int) (0 : Int) (1 : Int))
             (
              G_g26 (IntKind.wrap .i64 ((IntKind.wrap .i64 (p298 * p302)) + (IntKind.wrap .i64 (p299 * p303)))) (IntKind.wrap .i64 ((IntKind.wrap .i64 (p300 * p302)) + (IntKind.wrap .i64 (p301 * p303))))
                (fun x314 x315 x316 =>
                  k317 x314 x315 x316)))))
def g29 {α : Type} (m : Nat) : Int → Int → Int → Int → Int → Int → (Int → Int → Int → Option α) → Option α :=
  g29b (g19 m) (g22 m) (g26 m)
def g29tp : List TP := [(.vl (.agg [(.one (.int .i64)), (.one (.int .i64)), (.one (.int .i64)), (.one (.int .i64))])), (.vl (.agg [(.one (.int .i64)), (.one (.int .i64))]))]
def g29bp : List BP := []
def g29K {α : Type} (G : Int → Int → Int → Int → Int → Int → (Int → Int → Int → Option α) → Option α) (ls : List Lf) (k : TV → List (List Seg) → List (List Seg) → Option α) : Option α :=
  G (lf ls 0).int (lf ls 1).int (lf ls 2).int (lf ls 3).int (lf ls 4).int (lf ls 5).int
    (fun y0 y1 y2 => k (.tup [(.agg [(.one (.int .i64 y0)), (.one (.int .i64 y1))]), (.sv (.int .i64 y2))]) [] [])
def g29hd (G_g19 : {α : Type} → Int → Int → Int → Int → (Bool → Option α) → Option α) (G_g22 : {α : Type} → Int → Int → (Bool → Option α) → Option α) (G_g26 : {α : Type} → Int → Int → (Int → Int → Int → Option α) → Option α)  : Hd where
  call := fun f args Bs k => cond (Nat.beq f 19) (rowK g19tp g19bp (g19K G_g19) args Bs k) (cond (Nat.beq f 22) (rowK g22tp g22bp (g22K G_g22) args Bs k) (cond (Nat.beq f 26) (rowK g26tp g26bp (g26K G_g26) args Bs k) (none)))
  loop := fun id st k => none
  ro := fun f => []
def g29h (m : Nat) : Hd := g29hd (g19 m) (g22 m) (g26 m)
theorem g29Main (G_g19 : {α : Type} → Int → Int → Int → Int → (Bool → Option α) → Option α) (G_g22 : {α : Type} → Int → Int → (Bool → Option α) → Option α) (G_g26 : {α : Type} → Int → Int → (Int → Int → Int → Option α) → Option α)  {α : Type} (ls : List Lf) (k : TV → List (List Seg) → List (List Seg) → Option α) :
    g29K (g29b G_g19 G_g22 G_g26) ls k = evFun tab (g29hd G_g19 G_g22 G_g26) Go.Proofs.Try.f29 (fillT g29tp ls).1 (fillB g29bp (fillT g29tp ls).2).1 k := by kernel_rfl
theorem g29Calls (m : Nat) : (g29h m).CallsOk Go.Proofs.Try.prog := (cok_cons (g19Ok m) (cok_cons (g22Ok m) (cok_cons (g26Ok m) cok_nil)))
theorem g29Fn (m : Nat) : FnOk Go.Proofs.Try.prog 29 g29tp g29bp (fun {α} => g29K (g29 (α := α) m)) :=
  fn_ok (tab := tab) (h := g29h m) (fn := Go.Proofs.Try.f29) (F := fun {α} => g29K (g29 (α := α) m)) tabOk (g29Calls m) mixed (by kernel_rfl) (by kernel_rfl) (fun c hc => by
    rw [bodyOf_some hc]
    exact loopsOk_of _ (fun p hp => by rw [show loopsOf (bodyOf Go.Proofs.Try.f29) = [] by kernel_rfl] at hp; cases hp))
    (fun α ls k => g29Main (g19 m) (g22 m) (g26 m) ls k)
theorem g29Ok (m : Nat) : RowOk Go.Proofs.Try.prog 29 (fun {α} => rowK g29tp g29bp (g29K (g29 (α := α) m))) := row_of (g29Fn m)

/-! ### g7: laws.FnExactApplyMoebius -/
def g7b {α : Type} (G_g18 : {α : Type} → Int → Int → Int → Int → (Option α) → Option α) (G_g21 : {α : Type} → Int → Int → (Option α) → Option α) (G_g28 : {α : Type} → Int → Int → Int → Int → Int → Int → (Int → Int → Int → Option α) → Option α) (G_g29 : {α : Type} → Int → Int → Int → Int → Int → Int → (Int → Int → Int → Option α) → Option α) (G_g27 : {α : Type} → Int → Int → Int → Int → (Bool → Option α) → Option α)  (p268 : Int) (p269 : Int) (p270 : Int) (p271 : Int) (p272 : Int) (p273 : Int) (k324 : Bool → Option α) : Option α :=
  G_g18 p268 p269 p270 p271
    (
      G_g21 p272 p273
        (
          G_g28 p268 p269 p270 p271 p272 p273
            (fun x295 x296 x297 =>
              G_g18 p268 p269 p270 p271
                (
                  G_g21 p272 p273
                    (
                      G_g29 p268 p269 p270 p271 p272 p273
                        (fun x318 x319 x320 =>
                          G_g27 x318 x319 x295 x296
                            (fun b321 =>
                              cond (!b321)
                               (
                                k324 false)
                               (
                                cond (x320 != x297)
                                 (
                                  k324 false)
                                 (
                                  k324 true)))))))))
def g7 {α : Type} (m : Nat) : Int → Int → Int → Int → Int → Int → (Bool → Option α) → Option α :=
  g7b (g18 m) (g21 m) (g28 m) (g29 m) (g27 m)
def g7tp : List TP := [(.vl (.agg [(.one (.int .i64)), (.one (.int .i64)), (.one (.int .i64)), (.one (.int .i64))])), (.vl (.agg [(.one (.int .i64)), (.one (.int .i64))]))]
def g7bp : List BP := []
def g7K {α : Type} (G : Int → Int → Int → Int → Int → Int → (Bool → Option α) → Option α) (ls : List Lf) (k : TV → List (List Seg) → List (List Seg) → Option α) : Option α :=
  G (lf ls 0).int (lf ls 1).int (lf ls 2).int (lf ls 3).int (lf ls 4).int (lf ls 5).int
    (fun y0 => k (.vl (.sv (.bool y0))) [] [])
def g7hd (G_g18 : {α : Type} → Int → Int → Int → Int → (Option α) → Option α) (G_g21 : {α : Type} → Int → Int → (Option α) → Option α) (G_g28 : {α : Type} → Int → Int → Int → Int → Int → Int → (Int → Int → Int → Option α) → Option α) (G_g29 : {α : Type} → Int → Int → Int → Int → Int → Int → (Int → Int → Int → Option α) → Option α) (G_g27 : {α : Type} → Int → Int → Int → Int → (Bool → Option α) → Option α)  : Hd where
  call := fun f args Bs k => cond (Nat.beq f 18) (rowK g18tp g18bp (g18K G_g18) args Bs k) (cond (Nat.beq f 21) (rowK g21tp g21bp (g21K G_g21) args Bs k) (cond (Nat.beq f 28) (rowK g28tp g28bp (g28K G_g28) args Bs k) (cond (Nat.beq f 29) (rowK g29tp g29bp (g29K G_g29) args Bs k) (cond (Nat.beq f 27) (rowK g27tp g27bp (g27K G_g27) args Bs k) (none)))))
  loop := fun id st k => none
  ro := fun f => []
def g7h (m : Nat) : Hd := g7hd (g18 m) (g21 m) (g28 m) (g29 m) (g27 m)
theorem g7Main (G_g18 : {α : Type} → Int → Int → Int → Int → (Option α) → Option α) (G_g21 : {α : Type} → Int → Int → (Option α) → Option α) (G_g28 : {α : Type} → Int → Int → Int → Int → Int → Int → (Int → Int → Int → Option α) → Option α) (G_g29 : {α : Type} → Int → Int → Int → Int → Int → Int → (Int → Int → Int → Option α) → Option α) (G_g27 : {α : Type} → Int → Int → Int → Int → (Bool → Option α) → Option α)  {α : Type} (ls : List Lf) (k : TV → List (List Seg) → List (List Seg) → Option α) :
    g7K (g7b G_g18 G_g21 G_g28 G_g29 G_g27) ls k = evFun tab (g7hd G_g18 G_g21 G_g28 G_g29 G_g27) Go.Proofs.Try.f7 (fillT g7tp ls).1 (fillB g7bp (fillT g7tp ls).2).1 k := by kernel_rfl
theorem g7Calls (m : Nat) : (g7h m).CallsOk Go.Proofs.Try.prog := (cok_cons (g18Ok m) (cok_cons (g21Ok m) (cok_cons (g28Ok m) (cok_cons (g29Ok m) (cok_cons (g27Ok m) cok_nil)))))
theorem g7Fn (m : Nat) : FnOk Go.Proofs.Try.prog 7 g7tp g7bp (fun {α} => g7K (g7 (α := α) m)) :=
  fn_ok (tab := tab) (h := g7h m) (fn := Go.Proofs.Try.f7) (F := fun {α} => g7K (g7 (α := α) m)) tabOk (g7Calls m) mixed (by kernel_rfl) (by kernel_rfl) (fun c hc => by
    rw [bodyOf_some hc]
    exact loopsOk_of _ (fun p hp => by rw [show loopsOf (bodyOf Go.Proofs.Try.f7) = [] by kernel_rfl] at hp; cases hp))
    (fun α ls k => g7Main (g18 m) (g21 m) (g28 m) (g29 m) (g27 m) ls k)
theorem g7Ok (m : Nat) : RowOk Go.Proofs.Try.prog 7 (fun {α} => rowK g7tp g7bp (g7K (g7 (α := α) m))) := row_of (g7Fn m)

/-! ### g65: spec.l03Four -/
def g65b {α : Type} (G_g85 : {α : Type} → Int → Int → (Int → Option α) → Option α)  (p357 : Int) (p358 : Int) (p359 : Int) (p360 : Int) (k364 : Int → Option α) : Option α :=
  G_g85 p357 p358
    (fun x361 =>
      G_g85 p359 p360
        (fun x362 =>
          G_g85 x361 x362
            (fun x363 =>
              k364 x363)))
def g65 {α : Type} (m : Nat) : Int → Int → Int → Int → (Int → Option α) → Option α :=
  g65b (g85 m)
def g65tp : List TP := [(.vl (.sv (.ptr 0 0)))]
def g65bp : List BP := [(false, [(.one (.int .i64)), (.one (.int .i64)), (.one (.int .i64)), (.one (.int .i64))])]
def g65K {α : Type} (G : Int → Int → Int → Int → (Int → Option α) → Option α) (ls : List Lf) (k : TV → List (List Seg) → List (List Seg) → Option α) : Option α :=
  G (lf ls 0).int (lf ls 1).int (lf ls 2).int (lf ls 3).int
    (fun y0 => k (.vl (.sv (.int .i64 y0))) [[(.one (.int .i64 (lf ls 0).int)), (.one (.int .i64 (lf ls 1).int)), (.one (.int .i64 (lf ls 2).int)), (.one (.int .i64 (lf ls 3).int))]] [])
def g65hd (G_g85 : {α : Type} → Int → Int → (Int → Option α) → Option α)  : Hd where
  call := fun f args Bs k => cond (Nat.beq f 85) (rowK g85tp g85bp (g85K G_g85) args Bs k) (none)
  loop := fun id st k => none
  ro := fun f => []
def g65h (m : Nat) : Hd := g65hd (g85 m)
theorem g65Main (G_g85 : {α : Type} → Int → Int → (Int → Option α) → Option α)  {α : Type} (ls : List Lf) (k : TV → List (List Seg) → List (List Seg) → Option α) :
    g65K (g65b G_g85) ls k = evFun tab (g65hd G_g85) Go.Proofs.Try.f65 (fillT g65tp ls).1 (fillB g65bp (fillT g65tp ls).2).1 k := by kernel_rfl
theorem g65Calls (m : Nat) : (g65h m).CallsOk Go.Proofs.Try.prog := (cok_cons (g85Ok m) cok_nil)
theorem g65Fn (m : Nat) : FnOk Go.Proofs.Try.prog 65 g65tp g65bp (fun {α} => g65K (g65 (α := α) m)) :=
  fn_ok (tab := tab) (h := g65h m) (fn := Go.Proofs.Try.f65) (F := fun {α} => g65K (g65 (α := α) m)) tabOk (g65Calls m) mixed (by kernel_rfl) (by kernel_rfl) (fun c hc => by
    rw [bodyOf_some hc]
    exact loopsOk_of _ (fun p hp => by rw [show loopsOf (bodyOf Go.Proofs.Try.f65) = [] by kernel_rfl] at hp; cases hp))
    (fun α ls k => g65Main (g85 m) ls k)
theorem g65Ok (m : Nat) : RowOk Go.Proofs.Try.prog 65 (fun {α} => rowK g65tp g65bp (g65K (g65 (α := α) m))) := row_of (g65Fn m)

/-! ### g66: spec.l03Less -/
def g66b {α : Type} (G_g65 : {α : Type} → Int → Int → Int → Int → (Int → Option α) → Option α)  (p367 : Int) (p368 : Int) (p369 : Int) (p370 : Int) (k376 : Int → Int → Int → Int → Option α) : Option α :=
  G_g65 p367 p368 p369 p370
    (fun x371 =>
      if x371 = 0 then
        none
      else
        if x371 = 0 then
          none
        else
          if x371 = 0 then
            none
          else
            if x371 = 0 then
              none
            else
              k376 (IntKind.wrap .i64 (Int.tdiv p367 x371)) (IntKind.wrap .i64 (Int.tdiv p368 x371)) (IntKind.wrap .i64 (Int.tdiv p369 x371)) (IntKind.wrap .i64 (Int.tdiv p370 x371)))
def g66 {α : Type} (m : Nat) : Int → Int → Int → Int → (Int → Int → Int → Int → Option α) → Option α :=
  g66b (g65 m)
def g66tp : List TP := [(.vl (.agg [(.one (.int .i64)), (.one (.int .i64)), (.one (.int .i64)), (.one (.int .i64))]))]
def g66bp : List BP := []
def g66K {α : Type} (G : Int → Int → Int → Int → (Int → Int → Int → Int → Option α) → Option α) (ls : List Lf) (k : TV → List (List Seg) → List (List Seg) → Option α) : Option α :=
  G (lf ls 0).int (lf ls 1).int (lf ls 2).int (lf ls 3).int
    (fun y0 y1 y2 y3 => k (.vl (.agg [(.one (.int .i64 y0)), (.one (.int .i64 y1)), (.one (.int .i64 y2)), (.one (.int .i64 y3))])) [] [])
def g66hd (G_g65 : {α : Type} → Int → Int → Int → Int → (Int → Option α) → Option α)  : Hd where
  call := fun f args Bs k => cond (Nat.beq f 65) (rowK g65tp g65bp (g65K G_g65) args Bs k) (none)
  loop := fun id st k => none
  ro := fun f => cond (Nat.beq f 65) [0] ([])
def g66h (m : Nat) : Hd := g66hd (g65 m)
theorem g66Main (G_g65 : {α : Type} → Int → Int → Int → Int → (Int → Option α) → Option α)  {α : Type} (ls : List Lf) (k : TV → List (List Seg) → List (List Seg) → Option α) :
    g66K (g66b G_g65) ls k = evFun tab (g66hd G_g65) Go.Proofs.Try.f66 (fillT g66tp ls).1 (fillB g66bp (fillT g66tp ls).2).1 k := by kernel_rfl
theorem g66Calls (m : Nat) : (g66h m).CallsOk Go.Proofs.Try.prog := (cok_cons (g65Ok m) cok_nil)
theorem g66Fn (m : Nat) : FnOk Go.Proofs.Try.prog 66 g66tp g66bp (fun {α} => g66K (g66 (α := α) m)) :=
  fn_ok (tab := tab) (h := g66h m) (fn := Go.Proofs.Try.f66) (F := fun {α} => g66K (g66 (α := α) m)) tabOk (g66Calls m) mixed (by kernel_rfl) (by kernel_rfl) (fun c hc => by
    rw [bodyOf_some hc]
    exact loopsOk_of _ (fun p hp => by rw [show loopsOf (bodyOf Go.Proofs.Try.f66) = [] by kernel_rfl] at hp; cases hp))
    (fun α ls k => g66Main (g65 m) ls k)
theorem g66Ok (m : Nat) : RowOk Go.Proofs.Try.prog 66 (fun {α} => rowK g66tp g66bp (g66K (g66 (α := α) m))) := row_of (g66Fn m)

/-! ### g30: spec.ComposeMoebius -/
def g30b {α : Type} (G_g57 : {α : Type} → Int → Int → Int → Int → (Bool → Option α) → Option α) (G_g65 : {α : Type} → Int → Int → Int → Int → (Int → Option α) → Option α) (G_g66 : {α : Type} → Int → Int → Int → Int → (Int → Int → Int → Int → Option α) → Option α) (G_g67 : {α : Type} → Int → (Int → Option α) → Option α) (G_g68 : {α : Type} → Int → Int → Int → Int → Int → (Bool → Option α) → Option α)  (p333 : Int) (p334 : Int) (p335 : Int) (p336 : Int) (p337 : Int) (p338 : Int) (p339 : Int) (p340 : Int) (k394 : Int → Int → Int → Int → Int → Option α) : Option α :=
  G_g57 p333 p334 p335 p336
    (fun b341 =>
      cond (!b341)
       (
        k394 (0 : Int) (0 : Int) (0 : Int) (0 : Int) (1 : Int))
       (
        G_g57 p337 p338 p339 p340
          (fun b343 =>
            cond (!b343)
             (
              k394 (0 : Int) (0 : Int) (0 : Int) (0 : Int) (1 : Int))
             (
              let x347 : Int := IntKind.wrap .i64 ((IntKind.wrap .i64 (p333 * p337)) + (IntKind.wrap .i64 (p334 * p339)))
              let x350 : Int := IntKind.wrap .i64 ((IntKind.wrap .i64 (p333 * p338)) + (IntKind.wrap .i64 (p334 * p340)))
              let x353 : Int := IntKind.wrap .i64 ((IntKind.wrap .i64 (p335 * p337)) + (IntKind.wrap .i64 (p336 * p339)))
              let x356 : Int := IntKind.wrap .i64 ((IntKind.wrap .i64 (p335 * p338)) + (IntKind.wrap .i64 (p336 * p340)))
              G_g65 x347 x350 x353 x356
                (fun x365 =>
                  cond (x365 == (0 : Int))
                   (
                    k394 (0 : Int) (0 : Int) (0 : Int) (0 : Int) (4 : Int))
                   (
                    G_g66 x347 x350 x353 x356
                      (fun x377 x378 x379 x380 =>
                        cond (decide (x380 < (0 : Int)))
                         (
                          let x382 : Int := IntKind.wrap .i64 (0 - x377)
                          let x383 : Int := IntKind.wrap .i64 (0 - x378)
                          let x384 : Int := IntKind.wrap .i64 (0 - x379)
                          let x385 : Int := IntKind.wrap .i64 (0 - x380)
                          G_g67 x384
                            (fun x386 =>
                              cond (decide (x385 ≤ x386))
                               (
                                k394 (0 : Int) (0 : Int) (0 : Int) (0 : Int) (4 : Int))
                               (
                                G_g68 (1000000 : Int) x382 x383 x384 x385
                                  (fun b388 =>
                                    cond (!b388)
                                     (
                                      k394 (0 : Int) (0 : Int) (0 : Int) (0 : Int) (3 : Int))
                                     (
                                      k394 x382 x383 x384 x385 (0 : Int))))))
                         (
                          G_g67 x379
                            (fun x390 =>
                              cond (decide (x380 ≤ x390))
                               (
                                k394 (0 : Int) (0 : Int) (0 : Int) (0 : Int) (4 : Int))
                               (
                                G_g68 (1000000 : Int) x377 x378 x379 x380
                                  (fun b392 =>
                                    cond (!b392)
                                     (
                                      k394 (0 : Int) (0 : Int) (0 : Int) (0 : Int) (3 : Int))
                                     (
                                      k394 x377 x378 x379 x380 (0 : Int)))))))))))))
def g30 {α : Type} (m : Nat) : Int → Int → Int → Int → Int → Int → Int → Int → (Int → Int → Int → Int → Int → Option α) → Option α :=
  g30b (g57 m) (g65 m) (g66 m) (g67 m) (g68 m)
def g30tp : List TP := [(.vl (.agg [(.one (.int .i64)), (.one (.int .i64)), (.one (.int .i64)), (.one (.int .i64))])), (.vl (.agg [(.one (.int .i64)), (.one (.int .i64)), (.one (.int .i64)), (.one (.int .i64))]))]
def g30bp : List BP := []
def g30K {α : Type} (G : Int → Int → Int → Int → Int → Int → Int → Int → (Int → Int → Int → Int → Int → Option α) → Option α) (ls : List Lf) (k : TV → List (List Seg) → List (List Seg) → Option α) : Option α :=
  G (lf ls 0).int (lf ls 1).int (lf ls 2).int (lf ls 3).int (lf ls 4).int (lf ls 5).int (lf ls 6).int (lf ls 7).int
    (fun y0 y1 y2 y3 y4 => k (.tup [(.agg [(.one (.int .i64 y0)), (.one (.int .i64 y1)), (.one (.int .i64 y2)), (.one (.int .i64 y3))]), (.sv (.int .i64 y4))]) [] [])
def g30hd (G_g57 : {α : Type} → Int → Int → Int → Int → (Bool → Option α) → Option α) (G_g65 : {α : Type} → Int → Int → Int → Int → (Int → Option α) → Option α) (G_g66 : {α : Type} → Int → Int → Int → Int → (Int → Int → Int → Int → Option α) → Option α) (G_g67 : {α : Type} → Int → (Int → Option α) → Option α) (G_g68 : {α : Type} → Int → Int → Int → Int → Int → (Bool → Option α) → Option α)  : Hd where
  call := fun f args Bs k => cond (Nat.beq f 57) (rowK g57tp g57bp (g57K G_g57) args Bs k) (cond (Nat.beq f 65) (rowK g65tp g65bp (g65K G_g65) args Bs k) (cond (Nat.beq f 66) (rowK g66tp g66bp (g66K G_g66) args Bs k) (cond (Nat.beq f 67) (rowK g67tp g67bp (g67K G_g67) args Bs k) (cond (Nat.beq f 68) (rowK g68tp g68bp (g68K G_g68) args Bs k) (none)))))
  loop := fun id st k => none
  ro := fun f => cond (Nat.beq f 57) [0] (cond (Nat.beq f 65) [0] (cond (Nat.beq f 68) [0] ([])))
def g30h (m : Nat) : Hd := g30hd (g57 m) (g65 m) (g66 m) (g67 m) (g68 m)
theorem g30Main (G_g57 : {α : Type} → Int → Int → Int → Int → (Bool → Option α) → Option α) (G_g65 : {α : Type} → Int → Int → Int → Int → (Int → Option α) → Option α) (G_g66 : {α : Type} → Int → Int → Int → Int → (Int → Int → Int → Int → Option α) → Option α) (G_g67 : {α : Type} → Int → (Int → Option α) → Option α) (G_g68 : {α : Type} → Int → Int → Int → Int → Int → (Bool → Option α) → Option α)  {α : Type} (ls : List Lf) (k : TV → List (List Seg) → List (List Seg) → Option α) :
    g30K (g30b G_g57 G_g65 G_g66 G_g67 G_g68) ls k = evFun tab (g30hd G_g57 G_g65 G_g66 G_g67 G_g68) Go.Proofs.Try.f30 (fillT g30tp ls).1 (fillB g30bp (fillT g30tp ls).2).1 k := by kernel_rfl
theorem g30Calls (m : Nat) : (g30h m).CallsOk Go.Proofs.Try.prog := (cok_cons (g57Ok m) (cok_cons (g65Ok m) (cok_cons (g66Ok m) (cok_cons (g67Ok m) (cok_cons (g68Ok m) cok_nil)))))
theorem g30Fn (m : Nat) : FnOk Go.Proofs.Try.prog 30 g30tp g30bp (fun {α} => g30K (g30 (α := α) m)) :=
  fn_ok (tab := tab) (h := g30h m) (fn := Go.Proofs.Try.f30) (F := fun {α} => g30K (g30 (α := α) m)) tabOk (g30Calls m) mixed (by kernel_rfl) (by kernel_rfl) (fun c hc => by
    rw [bodyOf_some hc]
    exact loopsOk_of _ (fun p hp => by rw [show loopsOf (bodyOf Go.Proofs.Try.f30) = [] by kernel_rfl] at hp; cases hp))
    (fun α ls k => g30Main (g57 m) (g65 m) (g66 m) (g67 m) (g68 m) ls k)
theorem g30Ok (m : Nat) : RowOk Go.Proofs.Try.prog 30 (fun {α} => rowK g30tp g30bp (g30K (g30 (α := α) m))) := row_of (g30Fn m)

/-! ### g60v1: impl.common -/
def g60v1l2b {α : Type}   (m445 : Nat) (m446 : Nat) (m447 : Nat) (v448 : Int) (v449 : Int) (a450 : List Int) (k453 : Int → Option α) (r454 : Int → Int → Option α) (v443 : Int) (v444 : Int) : Option α :=
  cond (v444 != (0 : Int))
   (
    if v444 = 0 then
      none
    else
      r454 v444 (Int.tmod v443 v444))
   (
    k453 v443)
def g60v1l2 {α : Type}   (m445 : Nat) (m446 : Nat) (m447 : Nat) (v448 : Int) (v449 : Int) (a450 : List Int) (k453 : Int → Option α) : Nat → Int → Int → Option α
  | 0 => fun _ _ => none
  | m + 1 => fun v443 v444 => g60v1l2b m445 m446 m447 v448 v449 a450 k453 (g60v1l2 m445 m446 m447 v448 v449 a450 k453 m) v443 v444
def g60v1l2M {α : Type} (m : Nat) : Nat → Nat → Nat → Int → Int → (List Int) → (Int → Option α) → Int → Int → Option α :=
  fun m445 m446 m447 v448 v449 a450 k453 v443 v444 => g60v1l2 m445 m446 m447 v448 v449 a450 k453 m v443 v444
def g60v1l2D : LoopD := { n := 24, sl := [3, 5, 6, 7, 8], bl := [0], tp := [(.vl (.sv (.int .i64))), (.vl (.sv (.int .i64))), (.vl (.sv (.slc 0 0 1))), (.vl (.sv (.int .i64))), (.vl (.sv (.int .i64)))], bp := [(false, [(.seq (.int .i64) 4)])], xs := [(4, [3, 6, 7, 8], [0])] }
def g60v1l2K {α : Type} (L : Nat → Nat → Nat → Int → Int → (List Int) → (Int → Option α) → Int → Int → Option α) (ls : List Lf) (k : Ex → St → Option α) : Option α :=
  L (lf ls 2).nat (lf ls 3).nat (lf ls 4).nat (lf ls 5).int (lf ls 6).int ((lf ls 7).lst (.int .i64))
    (fun y0 => k .normal (mkSt 24 [3, 6, 7, 8] [(.vl (.sv (.int .i64 y0))), (.vl (.sv (.slc 0 0 1 (lf ls 2).nat (lf ls 3).nat (lf ls 4).nat))), (.vl (.sv (.int .i64 (lf ls 5).int))), (.vl (.sv (.int .i64 (lf ls 6).int)))] [0] [(false, [(.seq (.int .i64) 4 ((lf ls 7).lst (.int .i64)))])]))
    (lf ls 0).int (lf ls 1).int
def g60v1l0b {α : Type}  (L_g60v1l2 : {α : Type} → Nat → Nat → Nat → Int → Int → (List Int) → (Int → Option α) → Int → Int → Option α) (m433 : Nat) (m434 : Nat) (m435 : Nat) (v436 : Int) (a438 : List Int) (k457 : Int → Option α) (r458 : Int → Int → Option α) (v432 : Int) (v437 : Int) : Option α :=
  cond (decide (v437 < v436))
   (
    if 0 ≤ v437 ∧ v437 < (m434 : Nat) then
      if (m433 + v437.toNat) < 4 then
        let x440 : Int := List.getD a438 (m433 + v437.toNat) 0
        L_g60v1l2 m433 m434 m435 v436 v437 a438
          (fun x455 =>
            r458 x455 (IntKind.wrap .i64 (v437 + (1 : Int))))
          v432 (imax x440 (IntKind.wrap .i64 (0 - x440)))
      else
        none
    else
      none)
   (
    k457 v432)
def g60v1l0 {α : Type}  (L_g60v1l2 : {α : Type} → Nat → Nat → Nat → Int → Int → (List Int) → (Int → Option α) → Int → Int → Option α) (m433 : Nat) (m434 : Nat) (m435 : Nat) (v436 : Int) (a438 : List Int) (k457 : Int → Option α) : Nat → Int → Int → Option α
  | 0 => fun _ _ => none
  | m + 1 => fun v432 v437 => g60v1l0b L_g60v1l2 m433 m434 m435 v436 a438 k457 (g60v1l0 L_g60v1l2 m433 m434 m435 v436 a438 k457 m) v432 v437
def g60v1l0M {α : Type} (m : Nat) : Nat → Nat → Nat → Int → (List Int) → (Int → Option α) → Int → Int → Option α :=
  fun m433 m434 m435 v436 a438 k457 v432 v437 => g60v1l0 (g60v1l2M m) m433 m434 m435 v436 a438 k457 m v432 v437
def g60v1l0D : LoopD := { n := 24, sl := [3, 6, 7, 8], bl := [0], tp := [(.vl (.sv (.int .i64))), (.vl (.sv (.slc 0 0 1))), (.vl (.sv (.int .i64))), (.vl (.sv (.int .i64)))], bp := [(false, [(.seq (.int .i64) 4)])], xs := [(2, [3], [0])] }
def g60v1l0K {α : Type} (L : Nat → Nat → Nat → Int → (List Int) → (Int → Option α) → Int → Int → Option α) (ls : List Lf) (k : Ex → St → Option α) : Option α :=
  L (lf ls 1).nat (lf ls 2).nat (lf ls 3).nat (lf ls 4).int ((lf ls 6).lst (.int .i64))
    (fun y0 => k .normal (mkSt 24 [3] [(.vl (.sv (.int .i64 y0)))] [0] [(false, [(.seq (.int .i64) 4 ((lf ls 6).lst (.int .i64)))])]))
    (lf ls 0).int (lf ls 5).int
def g60v1b {α : Type}  (L_g60v1l2 : {α : Type} → Nat → Nat → Nat → Int → Int → (List Int) → (Int → Option α) → Int → Int → Option α) (L_g60v1l0 : {α : Type} → Nat → Nat → Nat → Int → (List Int) → (Int → Option α) → Int → Int → Option α) (m428 : Nat) (m429 : Nat) (m430 : Nat) (u431 : List Int) (k460 : Int → Option α) : Option α :=
  L_g60v1l0 m428 m429 m430 ((m429 : Nat) : Int) u431
    (fun x459 =>
      k460 x459)
    (0 : Int) (0 : Int)
def g60v1 {α : Type} (m : Nat) : Nat → Nat → Nat → (List Int) → (Int → Option α) → Option α :=
  g60v1b (g60v1l2M m) (g60v1l0M m)
def g60v1tp : List TP := [(.vl (.sv (.slc 0 0 1)))]
def g60v1bp : List BP := [(false, [(.seq (.int .i64) 4)])]
def g60v1K {α : Type} (G : Nat → Nat → Nat → (List Int) → (Int → Option α) → Option α) (ls : List Lf) (k : TV → List (List Seg) → List (List Seg) → Option α) : Option α :=
  G (lf ls 0).nat (lf ls 1).nat (lf ls 2).nat ((lf ls 3).lst (.int .i64))
    (fun y0 => k (.vl (.sv (.int .i64 y0))) [[(.seq (.int .i64) 4 ((lf ls 3).lst (.int .i64)))]] [])
def g60v1hd  (L_g60v1l2 : {α : Type} → Nat → Nat → Nat → Int → Int → (List Int) → (Int → Option α) → Int → Int → Option α) (L_g60v1l0 : {α : Type} → Nat → Nat → Nat → Int → (List Int) → (Int → Option α) → Int → Int → Option α) : Hd where
  call := fun f args Bs k => none
  loop := fun id st k => cond (Nat.beq id 2) (loopH g60v1l2D (g60v1l2K L_g60v1l2) st k) (cond (Nat.beq id 0) (loopH g60v1l0D (g60v1l0K L_g60v1l0) st k) (none))
  ro := fun f => []
def g60v1h (m : Nat) : Hd := g60v1hd (g60v1l2M m) (g60v1l0M m)
theorem g60v1l2Step  (L_g60v1l2 : {α : Type} → Nat → Nat → Nat → Int → Int → (List Int) → (Int → Option α) → Int → Int → Option α) (L_g60v1l0 : {α : Type} → Nat → Nat → Nat → Int → (List Int) → (Int → Option α) → Int → Int → Option α) {α : Type} (L : Nat → Nat → Nat → Int → Int → (List Int) → (Int → Option α) → Int → Int → Option α) (ls : List Lf) (k : Ex → St → Option α) :
    g60v1l2K (fun m445 m446 m447 v448 v449 a450 k453 v443 v444 => g60v1l2b m445 m446 m447 v448 v449 a450 k453 (L m445 m446 m447 v448 v449 a450 k453) v443 v444) ls k = ev tab (g60v1hd L_g60v1l2 L_g60v1l0) (bodyAt Go.Proofs.Try.f60 2) (atHead g60v1l2D ls) (loopK g60v1l2D 2 (loopH g60v1l2D (g60v1l2K L)) k) := by kernel_rfl
theorem g60v1l0Step  (L_g60v1l2 : {α : Type} → Nat → Nat → Nat → Int → Int → (List Int) → (Int → Option α) → Int → Int → Option α) (L_g60v1l0 : {α : Type} → Nat → Nat → Nat → Int → (List Int) → (Int → Option α) → Int → Int → Option α) {α : Type} (L : Nat → Nat → Nat → Int → (List Int) → (Int → Option α) → Int → Int → Option α) (ls : List Lf) (k : Ex → St → Option α) :
    g60v1l0K (fun m433 m434 m435 v436 a438 k457 v432 v437 => g60v1l0b L_g60v1l2 m433 m434 m435 v436 a438 k457 (L m433 m434 m435 v436 a438 k457) v432 v437) ls k = ev tab (g60v1hd L_g60v1l2 L_g60v1l0) (bodyAt Go.Proofs.Try.f60 0) (atHead g60v1l0D ls) (loopK g60v1l0D 0 (loopH g60v1l0D (g60v1l0K L)) k) := by kernel_rfl
theorem g60v1Main  (L_g60v1l2 : {α : Type} → Nat → Nat → Nat → Int → Int → (List Int) → (Int → Option α) → Int → Int → Option α) (L_g60v1l0 : {α : Type} → Nat → Nat → Nat → Int → (List Int) → (Int → Option α) → Int → Int → Option α) {α : Type} (ls : List Lf) (k : TV → List (List Seg) → List (List Seg) → Option α) :
    g60v1K (g60v1b L_g60v1l2 L_g60v1l0) ls k = evFun tab (g60v1hd L_g60v1l2 L_g60v1l0) Go.Proofs.Try.f60 (fillT g60v1tp ls).1 (fillB g60v1bp (fillT g60v1tp ls).2).1 k := by kernel_rfl
theorem g60v1Calls (m : Nat) : (g60v1h m).CallsOk Go.Proofs.Try.prog := cok_nil
theorem g60v1l2Ok (m : Nat) (α : Type) (st : St) (k : Ex → St → Option α) (r : α) (h : (g60v1h m).loop 2 st k = some r) :
    ∃ e st', k e st' = some r ∧ CodeS Go.Proofs.Try.prog (.block 2 (.loop (bodyAt Go.Proofs.Try.f60 2))) st e st' :=
  loop_ok (tab := tab) (h := g60v1h m) (F := fun n ls k => g60v1l2K (fun m445 m446 m447 v448 v449 a450 k453 v443 v444 => g60v1l2 m445 m446 m447 v448 v449 a450 k453 n v443 v444) ls k) tabOk (g60v1Calls m) mixed (loopsOk_of _ (fun p hp => by rw [show loopsOf (bodyAt Go.Proofs.Try.f60 2) = [] by kernel_rfl] at hp; cases hp))
    (fun _ _ => rfl) (fun n ls k => g60v1l2Step (g60v1l2M m) (g60v1l0M m) (fun m445 m446 m447 v448 v449 a450 k453 => g60v1l2 m445 m446 m447 v448 v449 a450 k453 n) ls k) (n := m) h
theorem g60v1l0Ok (m : Nat) (α : Type) (st : St) (k : Ex → St → Option α) (r : α) (h : (g60v1h m).loop 0 st k = some r) :
    ∃ e st', k e st' = some r ∧ CodeS Go.Proofs.Try.prog (.block 0 (.loop (bodyAt Go.Proofs.Try.f60 0))) st e st' :=
  loop_ok (tab := tab) (h := g60v1h m) (F := fun n ls k => g60v1l0K (fun m433 m434 m435 v436 a438 k457 v432 v437 => g60v1l0 (g60v1l2M m) m433 m434 m435 v436 a438 k457 n v432 v437) ls k) tabOk (g60v1Calls m) mixed (loopsOk_of _ (fun p hp => by
    rw [show loopsOf (bodyAt Go.Proofs.Try.f60 0) = [(2, bodyAt Go.Proofs.Try.f60 2)] by kernel_rfl] at hp
    simp only [List.mem_cons, List.not_mem_nil, or_false] at hp
    rcases hp with rfl
    exact g60v1l2Ok m))
    (fun _ _ => rfl) (fun n ls k => g60v1l0Step (g60v1l2M m) (g60v1l0M m) (fun m433 m434 m435 v436 a438 k457 => g60v1l0 (g60v1l2M m) m433 m434 m435 v436 a438 k457 n) ls k) (n := m) h
theorem g60v1Fn (m : Nat) : FnOk Go.Proofs.Try.prog 60 g60v1tp g60v1bp (fun {α} => g60v1K (g60v1 (α := α) m)) :=
  fn_ok (tab := tab) (h := g60v1h m) (fn := Go.Proofs.Try.f60) (F := fun {α} => g60v1K (g60v1 (α := α) m)) tabOk (g60v1Calls m) mixed (by kernel_rfl) (by kernel_rfl) (fun c hc => by
    rw [bodyOf_some hc]
    exact loopsOk_of _ (fun p hp => by
    rw [show loopsOf (bodyOf Go.Proofs.Try.f60) = [(0, bodyAt Go.Proofs.Try.f60 0)] by kernel_rfl] at hp
    simp only [List.mem_cons, List.not_mem_nil, or_false] at hp
    rcases hp with rfl
    exact g60v1l0Ok m))
    (fun α ls k => g60v1Main (g60v1l2M m) (g60v1l0M m) ls k)
theorem g60v1Ok (m : Nat) : RowOk Go.Proofs.Try.prog 60 (fun {α} => rowK g60v1tp g60v1bp (g60v1K (g60v1 (α := α) m))) := row_of (g60v1Fn m)

/-! ### g69: (impl.Moebius).reduced -/
def g69b {α : Type} (G_g60v1 : {α : Type} → Nat → Nat → Nat → (List Int) → (Int → Option α) → Option α)  (p424 : Int) (p425 : Int) (p426 : Int) (p427 : Int) (k467 : Int → Int → Int → Int → Option α) : Option α :=
  G_g60v1 0 4 4 [p424, p425, p426, p427]
    (fun x461 =>
      cond (x461 == (0 : Int))
       (
        k467 p424 p425 p426 p427)
       (
        if x461 = 0 then
          none
        else
          if x461 = 0 then
            none
          else
            if x461 = 0 then
              none
            else
              if x461 = 0 then
                none
              else
                k467 (IntKind.wrap .i64 (Int.tdiv p424 x461)) (IntKind.wrap .i64 (Int.tdiv p425 x461)) (IntKind.wrap .i64 (Int.tdiv p426 x461)) (IntKind.wrap .i64 (Int.tdiv p427 x461))))
def g69 {α : Type} (m : Nat) : Int → Int → Int → Int → (Int → Int → Int → Int → Option α) → Option α :=
  g69b (g60v1 m)
def g69tp : List TP := [(.vl (.agg [(.one (.int .i64)), (.one (.int .i64)), (.one (.int .i64)), (.one (.int .i64))]))]
def g69bp : List BP := []
def g69K {α : Type} (G : Int → Int → Int → Int → (Int → Int → Int → Int → Option α) → Option α) (ls : List Lf) (k : TV → List (List Seg) → List (List Seg) → Option α) : Option α :=
  G (lf ls 0).int (lf ls 1).int (lf ls 2).int (lf ls 3).int
    (fun y0 y1 y2 y3 => k (.vl (.agg [(.one (.int .i64 y0)), (.one (.int .i64 y1)), (.one (.int .i64 y2)), (.one (.int .i64 y3))])) [] [])
def g69hd (G_g60v1 : {α : Type} → Nat → Nat → Nat → (List Int) → (Int → Option α) → Option α)  : Hd where
  call := fun f args Bs k => cond (Nat.beq f 60) (rowK g60v1tp g60v1bp (g60v1K G_g60v1) args Bs k) (none)
  loop := fun id st k => none
  ro := fun f => cond (Nat.beq f 60) [0] ([])
def g69h (m : Nat) : Hd := g69hd (g60v1 m)
theorem g69Main (G_g60v1 : {α : Type} → Nat → Nat → Nat → (List Int) → (Int → Option α) → Option α)  {α : Type} (ls : List Lf) (k : TV → List (List Seg) → List (List Seg) → Option α) :
    g69K (g69b G_g60v1) ls k = evFun tab (g69hd G_g60v1) Go.Proofs.Try.f69 (fillT g69tp ls).1 (fillB g69bp (fillT g69tp ls).2).1 k := by kernel_rfl
theorem g69Calls (m : Nat) : (g69h m).CallsOk Go.Proofs.Try.prog := (cok_cons (g60v1Ok m) cok_nil)
theorem g69Fn (m : Nat) : FnOk Go.Proofs.Try.prog 69 g69tp g69bp (fun {α} => g69K (g69 (α := α) m)) :=
  fn_ok (tab := tab) (h := g69h m) (fn := Go.Proofs.Try.f69) (F := fun {α} => g69K (g69 (α := α) m)) tabOk (g69Calls m) mixed (by kernel_rfl) (by kernel_rfl) (fun c hc => by
    rw [bodyOf_some hc]
    exact loopsOk_of _ (fun p hp => by rw [show loopsOf (bodyOf Go.Proofs.Try.f69) = [] by kernel_rfl] at hp; cases hp))
    (fun α ls k => g69Main (g60v1 m) ls k)
theorem g69Ok (m : Nat) : RowOk Go.Proofs.Try.prog 69 (fun {α} => rowK g69tp g69bp (g69K (g69 (α := α) m))) := row_of (g69Fn m)

/-! ### g70: (impl.Moebius).largest -/
def g70b {α : Type}   (p480 : Int) (p481 : Int) (p482 : Int) (p483 : Int) (k495 : Int → Option α) : Option α :=
  k495 (imax (imax (imax (imax (imax (imax (imax p480 (IntKind.wrap .i64 (0 - p480))) p481) (IntKind.wrap .i64 (0 - p481))) p482) (IntKind.wrap .i64 (0 - p482))) p483) (IntKind.wrap .i64 (0 - p483)))
def g70 {α : Type} (m : Nat) : Int → Int → Int → Int → (Int → Option α) → Option α :=
  g70b
def g70tp : List TP := [(.vl (.agg [(.one (.int .i64)), (.one (.int .i64)), (.one (.int .i64)), (.one (.int .i64))]))]
def g70bp : List BP := []
def g70K {α : Type} (G : Int → Int → Int → Int → (Int → Option α) → Option α) (ls : List Lf) (k : TV → List (List Seg) → List (List Seg) → Option α) : Option α :=
  G (lf ls 0).int (lf ls 1).int (lf ls 2).int (lf ls 3).int
    (fun y0 => k (.vl (.sv (.int .i64 y0))) [] [])
def g70hd   : Hd where
  call := fun f args Bs k => none
  loop := fun id st k => none
  ro := fun f => []
def g70h (m : Nat) : Hd := g70hd
theorem g70Main   {α : Type} (ls : List Lf) (k : TV → List (List Seg) → List (List Seg) → Option α) :
    g70K (g70b) ls k = evFun tab (g70hd) Go.Proofs.Try.f70 (fillT g70tp ls).1 (fillB g70bp (fillT g70tp ls).2).1 k := by kernel_rfl
theorem g70Calls (m : Nat) : (g70h m).CallsOk Go.Proofs.Try.prog := cok_nil
theorem g70Fn (m : Nat) : FnOk Go.Proofs.Try.prog 70 g70tp g70bp (fun {α} => g70K (g70 (α := α) m)) :=
  fn_ok (tab := tab) (h := g70h m) (fn := Go.Proofs.Try.f70) (F := fun {α} => g70K (g70 (α := α) m)) tabOk (g70Calls m) mixed (by kernel_rfl) (by kernel_rfl) (fun c hc => by
    rw [bodyOf_some hc]
    exact loopsOk_of _ (fun p hp => by rw [show loopsOf (bodyOf Go.Proofs.Try.f70) = [] by kernel_rfl] at hp; cases hp))
    (fun α ls k => g70Main ls k)
theorem g70Ok (m : Nat) : RowOk Go.Proofs.Try.prog 70 (fun {α} => rowK g70tp g70bp (g70K (g70 (α := α) m))) := row_of (g70Fn m)

/-! ### g31: impl.ComposeMoebius -/
def g31b {α : Type} (G_g19 : {α : Type} → Int → Int → Int → Int → (Bool → Option α) → Option α) (G_g69 : {α : Type} → Int → Int → Int → Int → (Int → Int → Int → Int → Option α) → Option α) (G_g70 : {α : Type} → Int → Int → Int → Int → (Int → Option α) → Option α)  (p400 : Int) (p401 : Int) (p402 : Int) (p403 : Int) (p404 : Int) (p405 : Int) (p406 : Int) (p407 : Int) (k503 : Int → Int → Int → Int → Int → Option α) : Option α :=
  G_g19 p400 p401 p402 p403
    (fun b408 =>
      cond (!b408)
       (
        k503 (0 : Int) (0 : Int) (0 : Int) (0 : Int) (1 : Int))
       (
        G_g19 p404 p405 p406 p407
          (fun b410 =>
            cond (!b410)
             (
              k503 (0 : Int) (0 : Int) (0 : Int) (0 : Int) (1 : Int))
             (
              G_g69 (IntKind.wrap .i64 ((IntKind.wrap .i64 (p400 * p404)) + (IntKind.wrap .i64 (p401 * p406)))) (IntKind.wrap .i64 ((IntKind.wrap .i64 (p400 * p405)) + (IntKind.wrap .i64 (p401 * p407)))) (IntKind.wrap .i64 ((IntKind.wrap .i64 (p402 * p404)) + (IntKind.wrap .i64 (p403 * p406)))) (IntKind.wrap .i64 ((IntKind.wrap .i64 (p402 * p405)) + (IntKind.wrap .i64 (p403 * p407))))
                (fun x468 x469 x470 x471 =>
                  cond (decide (x471 < (0 : Int)))
                   (
                    let x473 : Int := IntKind.wrap .i64 (0 - x468)
                    let x474 : Int := IntKind.wrap .i64 (0 - x469)
                    let x475 : Int := IntKind.wrap .i64 (0 - x470)
                    let x476 : Int := IntKind.wrap .i64 (0 - x471)
                    cond (decide (x476 ≤ (imax x475 (IntKind.wrap .i64 (0 - x475)))))
                     (
                      k503 (0 : Int) (0 : Int) (0 : Int) (0 : Int) (4 : Int))
                     (
                      G_g70 x473 x474 x475 x476
                        (fun x496 =>
                          cond (decide (x496 > (1000000 : Int)))
                           (
                            k503 (0 : Int) (0 : Int) (0 : Int) (0 : Int) (3 : Int))
                           (
                            k503 x473 x474 x475 x476 (0 : Int)))))
                   (
                    cond (decide (x471 ≤ (imax x470 (IntKind.wrap .i64 (0 - x470)))))
                     (
                      k503 (0 : Int) (0 : Int) (0 : Int) (0 : Int) (4 : Int))
                     (
                      G_g70 x468 x469 x470 x471
                        (fun x501 =>
                          cond (decide (x501 > (1000000 : Int)))
                           (
                            k503 (0 : Int) (0 : Int) (0 : Int) (0 : Int) (3 : Int))
                           (
                            k503 x468 x469 x470 x471 (0 : Int))))))))))
def g31 {α : Type} (m : Nat) : Int → Int → Int → Int → Int → Int → Int → Int → (Int → Int → Int → Int → Int → Option α) → Option α :=
  g31b (g19 m) (g69 m) (g70 m)
def g31tp : List TP := [(.vl (.agg [(.one (.int .i64)), (.one (.int .i64)), (.one (.int .i64)), (.one (.int .i64))])), (.vl (.agg [(.one (.int .i64)), (.one (.int .i64)), (.one (.int .i64)), (.one (.int .i64))]))]
def g31bp : List BP := []
def g31K {α : Type} (G : Int → Int → Int → Int → Int → Int → Int → Int → (Int → Int → Int → Int → Int → Option α) → Option α) (ls : List Lf) (k : TV → List (List Seg) → List (List Seg) → Option α) : Option α :=
  G (lf ls 0).int (lf ls 1).int (lf ls 2).int (lf ls 3).int (lf ls 4).int (lf ls 5).int (lf ls 6).int (lf ls 7).int
    (fun y0 y1 y2 y3 y4 => k (.tup [(.agg [(.one (.int .i64 y0)), (.one (.int .i64 y1)), (.one (.int .i64 y2)), (.one (.int .i64 y3))]), (.sv (.int .i64 y4))]) [] [])
def g31hd (G_g19 : {α : Type} → Int → Int → Int → Int → (Bool → Option α) → Option α) (G_g69 : {α : Type} → Int → Int → Int → Int → (Int → Int → Int → Int → Option α) → Option α) (G_g70 : {α : Type} → Int → Int → Int → Int → (Int → Option α) → Option α)  : Hd where
  call := fun f args Bs k => cond (Nat.beq f 19) (rowK g19tp g19bp (g19K G_g19) args Bs k) (cond (Nat.beq f 69) (rowK g69tp g69bp (g69K G_g69) args Bs k) (cond (Nat.beq f 70) (rowK g70tp g70bp (g70K G_g70) args Bs k) (none)))
  loop := fun id st k => none
  ro := fun f => []
def g31h (m : Nat) : Hd := g31hd (g19 m) (g69 m) (g70 m)
theorem g31Main (G_g19 : {α : Type} → Int → Int → Int → Int → (Bool → Option α) → Option α) (G_g69 : {α : Type} → Int → Int → Int → Int → (Int → Int → Int → Int → Option α) → Option α) (G_g70 : {α : Type} → Int → Int → Int → Int → (Int → Option α) → Option α)  {α : Type} (ls : List Lf) (k : TV → List (List Seg) → List (List Seg) → Option α) :
    g31K (g31b G_g19 G_g69 G_g70) ls k = evFun tab (g31hd G_g19 G_g69 G_g70) Go.Proofs.Try.f31 (fillT g31tp ls).1 (fillB g31bp (fillT g31tp ls).2).1 k := by kernel_rfl
theorem g31Calls (m : Nat) : (g31h m).CallsOk Go.Proofs.Try.prog := (cok_cons (g19Ok m) (cok_cons (g69Ok m) (cok_cons (g70Ok m) cok_nil)))
theorem g31Fn (m : Nat) : FnOk Go.Proofs.Try.prog 31 g31tp g31bp (fun {α} => g31K (g31 (α := α) m)) :=
  fn_ok (tab := tab) (h := g31h m) (fn := Go.Proofs.Try.f31) (F := fun {α} => g31K (g31 (α := α) m)) tabOk (g31Calls m) mixed (by kernel_rfl) (by kernel_rfl) (fun c hc => by
    rw [bodyOf_some hc]
    exact loopsOk_of _ (fun p hp => by rw [show loopsOf (bodyOf Go.Proofs.Try.f31) = [] by kernel_rfl] at hp; cases hp))
    (fun α ls k => g31Main (g19 m) (g69 m) (g70 m) ls k)
theorem g31Ok (m : Nat) : RowOk Go.Proofs.Try.prog 31 (fun {α} => rowK g31tp g31bp (g31K (g31 (α := α) m))) := row_of (g31Fn m)

/-! ### g32: laws.eqMoebius -/
def g32b {α : Type}   (p509 : Int) (p510 : Int) (p511 : Int) (p512 : Int) (p513 : Int) (p514 : Int) (p515 : Int) (p516 : Int) (k521 : Bool → Option α) : Option α :=
  cond (p509 != p513)
   (
    k521 false)
   (
    cond (p510 != p514)
     (
      k521 false)
     (
      cond (p511 != p515)
       (
        k521 false)
       (
        cond (p512 != p516)
         (
          k521 false)
         (
          k521 true))))
def g32 {α : Type} (m : Nat) : Int → Int → Int → Int → Int → Int → Int → Int → (Bool → Option α) → Option α :=
  g32b
def g32tp : List TP := [(.vl (.agg [(.one (.int .i64)), (.one (.int .i64)), (.one (.int .i64)), (.one (.int .i64))])), (.vl (.agg [(.one (.int .i64)), (.one (.int .i64)), (.one (.int .i64)), (.one (.int .i64))]))]
def g32bp : List BP := []
def g32K {α : Type} (G : Int → Int → Int → Int → Int → Int → Int → Int → (Bool → Option α) → Option α) (ls : List Lf) (k : TV → List (List Seg) → List (List Seg) → Option α) : Option α :=
  G (lf ls 0).int (lf ls 1).int (lf ls 2).int (lf ls 3).int (lf ls 4).int (lf ls 5).int (lf ls 6).int (lf ls 7).int
    (fun y0 => k (.vl (.sv (.bool y0))) [] [])
def g32hd   : Hd where
  call := fun f args Bs k => none
  loop := fun id st k => none
  ro := fun f => []
def g32h (m : Nat) : Hd := g32hd
theorem g32Main   {α : Type} (ls : List Lf) (k : TV → List (List Seg) → List (List Seg) → Option α) :
    g32K (g32b) ls k = evFun tab (g32hd) Go.Proofs.Try.f32 (fillT g32tp ls).1 (fillB g32bp (fillT g32tp ls).2).1 k := by kernel_rfl
theorem g32Calls (m : Nat) : (g32h m).CallsOk Go.Proofs.Try.prog := cok_nil
theorem g32Fn (m : Nat) : FnOk Go.Proofs.Try.prog 32 g32tp g32bp (fun {α} => g32K (g32 (α := α) m)) :=
  fn_ok (tab := tab) (h := g32h m) (fn := Go.Proofs.Try.f32) (F := fun {α} => g32K (g32 (α := α) m)) tabOk (g32Calls m) mixed (by kernel_rfl) (by kernel_rfl) (fun c hc => by
    rw [bodyOf_some hc]
    exact loopsOk_of _ (fun p hp => by rw [show loopsOf (bodyOf Go.Proofs.Try.f32) = [] by kernel_rfl] at hp; cases hp))
    (fun α ls k => g32Main ls k)
theorem g32Ok (m : Nat) : RowOk Go.Proofs.Try.prog 32 (fun {α} => rowK g32tp g32bp (g32K (g32 (α := α) m))) := row_of (g32Fn m)

/-! ### g8: laws.FnExactComposeMoebius -/
def g8b {α : Type} (G_g18 : {α : Type} → Int → Int → Int → Int → (Option α) → Option α) (G_g30 : {α : Type} → Int → Int → Int → Int → Int → Int → Int → Int → (Int → Int → Int → Int → Int → Option α) → Option α) (G_g31 : {α : Type} → Int → Int → Int → Int → Int → Int → Int → Int → (Int → Int → Int → Int → Int → Option α) → Option α) (G_g32 : {α : Type} → Int → Int → Int → Int → Int → Int → Int → Int → (Bool → Option α) → Option α)  (p325 : Int) (p326 : Int) (p327 : Int) (p328 : Int) (p329 : Int) (p330 : Int) (p331 : Int) (p332 : Int) (k525 : Bool → Option α) : Option α :=
  G_g18 p325 p326 p327 p328
    (
      G_g18 p329 p330 p331 p332
        (
          G_g30 p325 p326 p327 p328 p329 p330 p331 p332
            (fun x395 x396 x397 x398 x399 =>
              G_g18 p325 p326 p327 p328
                (
                  G_g18 p329 p330 p331 p332
                    (
                      G_g31 p325 p326 p327 p328 p329 p330 p331 p332
                        (fun x504 x505 x506 x507 x508 =>
                          G_g32 x504 x505 x506 x507 x395 x396 x397 x398
                            (fun b522 =>
                              cond (!b522)
                               (
                                k525 false)
                               (
                                cond (x508 != x399)
                                 (
                                  k525 false)
                                 (
                                  k525 true)))))))))
def g8 {α : Type} (m : Nat) : Int → Int → Int → Int → Int → Int → Int → Int → (Bool → Option α) → Option α :=
  g8b (g18 m) (g30 m) (g31 m) (g32 m)
def g8tp : List TP := [(.vl (.agg [(.one (.int .i64)), (.one (.int .i64)), (.one (.int .i64)), (.one (.int .i64))])), (.vl (.agg [(.one (.int .i64)), (.one (.int .i64)), (.one (.int .i64)), (.one (.int .i64))]))]
def g8bp : List BP := []
def g8K {α : Type} (G : Int → Int → Int → Int → Int → Int → Int → Int → (Bool → Option α) → Option α) (ls : List Lf) (k : TV → List (List Seg) → List (List Seg) → Option α) : Option α :=
  G (lf ls 0).int (lf ls 1).int (lf ls 2).int (lf ls 3).int (lf ls 4).int (lf ls 5).int (lf ls 6).int (lf ls 7).int
    (fun y0 => k (.vl (.sv (.bool y0))) [] [])
def g8hd (G_g18 : {α : Type} → Int → Int → Int → Int → (Option α) → Option α) (G_g30 : {α : Type} → Int → Int → Int → Int → Int → Int → Int → Int → (Int → Int → Int → Int → Int → Option α) → Option α) (G_g31 : {α : Type} → Int → Int → Int → Int → Int → Int → Int → Int → (Int → Int → Int → Int → Int → Option α) → Option α) (G_g32 : {α : Type} → Int → Int → Int → Int → Int → Int → Int → Int → (Bool → Option α) → Option α)  : Hd where
  call := fun f args Bs k => cond (Nat.beq f 18) (rowK g18tp g18bp (g18K G_g18) args Bs k) (cond (Nat.beq f 30) (rowK g30tp g30bp (g30K G_g30) args Bs k) (cond (Nat.beq f 31) (rowK g31tp g31bp (g31K G_g31) args Bs k) (cond (Nat.beq f 32) (rowK g32tp g32bp (g32K G_g32) args Bs k) (none))))
  loop := fun id st k => none
  ro := fun f => []
def g8h (m : Nat) : Hd := g8hd (g18 m) (g30 m) (g31 m) (g32 m)
theorem g8Main (G_g18 : {α : Type} → Int → Int → Int → Int → (Option α) → Option α) (G_g30 : {α : Type} → Int → Int → Int → Int → Int → Int → Int → Int → (Int → Int → Int → Int → Int → Option α) → Option α) (G_g31 : {α : Type} → Int → Int → Int → Int → Int → Int → Int → Int → (Int → Int → Int → Int → Int → Option α) → Option α) (G_g32 : {α : Type} → Int → Int → Int → Int → Int → Int → Int → Int → (Bool → Option α) → Option α)  {α : Type} (ls : List Lf) (k : TV → List (List Seg) → List (List Seg) → Option α) :
    g8K (g8b G_g18 G_g30 G_g31 G_g32) ls k = evFun tab (g8hd G_g18 G_g30 G_g31 G_g32) Go.Proofs.Try.f8 (fillT g8tp ls).1 (fillB g8bp (fillT g8tp ls).2).1 k := by kernel_rfl
theorem g8Calls (m : Nat) : (g8h m).CallsOk Go.Proofs.Try.prog := (cok_cons (g18Ok m) (cok_cons (g30Ok m) (cok_cons (g31Ok m) (cok_cons (g32Ok m) cok_nil))))
theorem g8Fn (m : Nat) : FnOk Go.Proofs.Try.prog 8 g8tp g8bp (fun {α} => g8K (g8 (α := α) m)) :=
  fn_ok (tab := tab) (h := g8h m) (fn := Go.Proofs.Try.f8) (F := fun {α} => g8K (g8 (α := α) m)) tabOk (g8Calls m) mixed (by kernel_rfl) (by kernel_rfl) (fun c hc => by
    rw [bodyOf_some hc]
    exact loopsOk_of _ (fun p hp => by rw [show loopsOf (bodyOf Go.Proofs.Try.f8) = [] by kernel_rfl] at hp; cases hp))
    (fun α ls k => g8Main (g18 m) (g30 m) (g31 m) (g32 m) ls k)
theorem g8Ok (m : Nat) : RowOk Go.Proofs.Try.prog 8 (fun {α} => rowK g8tp g8bp (g8K (g8 (α := α) m))) := row_of (g8Fn m)

/-! ### g71: spec.l03Image -/
def g71b {α : Type} (G_g64 : {α : Type} → Int → Int → (Int → Int → Int → Option α) → Option α) (G_g61 : {α : Type} → Int → Int → Int → Int → (Int → Option α) → Option α)  (p536 : Int) (p537 : Int) (p538 : Int) (p539 : Int) (k552 : Int → Int → Int → Int → Option α) : Option α :=
  G_g64 (IntKind.wrap .i64 (p537 - p536)) (IntKind.wrap .i64 (p539 - p538))
    (fun x542 x543 x544 =>
      G_g64 (IntKind.wrap .i64 (p537 + p536)) (IntKind.wrap .i64 (p539 + p538))
        (fun x547 x548 x549 =>
          G_g61 x547 x548 x542 x543
            (fun x550 =>
              cond (decide (x550 < (0 : Int)))
               (
                k552 x547 x548 x542 x543)
               (
                k552 x542 x543 x547 x548))))
def g71 {α : Type} (m : Nat) : Int → Int → Int → Int → (Int → Int → Int → Int → Option α) → Option α :=
  g71b (g64 m) (g61 m)
def g71tp : List TP := [(.vl (.sv (.ptr 0 0)))]
def g71bp : List BP := [(false, [(.one (.int .i64)), (.one (.int .i64)), (.one (.int .i64)), (.one (.int .i64))])]
def g71K {α : Type} (G : Int → Int → Int → Int → (Int → Int → Int → Int → Option α) → Option α) (ls : List Lf) (k : TV → List (List Seg) → List (List Seg) → Option α) : Option α :=
  G (lf ls 0).int (lf ls 1).int (lf ls 2).int (lf ls 3).int
    (fun y0 y1 y2 y3 => k (.tup [(.agg [(.one (.int .i64 y0)), (.one (.int .i64 y1))]), (.agg [(.one (.int .i64 y2)), (.one (.int .i64 y3))])]) [[(.one (.int .i64 (lf ls 0).int)), (.one (.int .i64 (lf ls 1).int)), (.one (.int .i64 (lf ls 2).int)), (.one (.int .i64 (lf ls 3).int))]] [])
def g71hd (G_g64 : {α : Type} → Int → Int → (Int → Int → Int → Option α) → Option α) (G_g61 : {α : Type} → Int → Int → Int → Int → (Int → Option α) → Option α)  : Hd where
  call := fun f args Bs k => cond (Nat.beq f 64) (rowK g64tp g64bp (g64K G_g64) args Bs k) (cond (Nat.beq f 61) (rowK g61tp g61bp (g61K G_g61) args Bs k) (none))
  loop := fun id st k => none
  ro := fun f => cond (Nat.beq f 61) [0, 1] ([])
def g71h (m : Nat) : Hd := g71hd (g64 m) (g61 m)
theorem g71Main (G_g64 : {α : Type} → Int → Int → (Int → Int → Int → Option α) → Option α) (G_g61 : {α : Type} → Int → Int → Int → Int → (Int → Option α) → Option α)  {α : Type} (ls : List Lf) (k : TV → List (List Seg) → List (List Seg) → Option α) :
    g71K (g71b G_g64 G_g61) ls k = evFun tab (g71hd G_g64 G_g61) Go.Proofs.Try.f71 (fillT g71tp ls).1 (fillB g71bp (fillT g71tp ls).2).1 k := by kernel_rfl
theorem g71Calls (m : Nat) : (g71h m).CallsOk Go.Proofs.Try.prog := (cok_cons (g64Ok m) (cok_cons (g61Ok m) cok_nil))
theorem g71Fn (m : Nat) : FnOk Go.Proofs.Try.prog 71 g71tp g71bp (fun {α} => g71K (g71 (α := α) m)) :=
  fn_ok (tab := tab) (h := g71h m) (fn := Go.Proofs.Try.f71) (F := fun {α} => g71K (g71 (α := α) m)) tabOk (g71Calls m) mixed (by kernel_rfl) (by kernel_rfl) (fun c hc => by
    rw [bodyOf_some hc]
    exact loopsOk_of _ (fun p hp => by rw [show loopsOf (bodyOf Go.Proofs.Try.f71) = [] by kernel_rfl] at hp; cases hp))
    (fun α ls k => g71Main (g64 m) (g61 m) ls k)
theorem g71Ok (m : Nat) : RowOk Go.Proofs.Try.prog 71 (fun {α} => rowK g71tp g71bp (g71K (g71 (α := α) m))) := row_of (g71Fn m)

/-! ### g33: spec.ImageOf -/
def g33b {α : Type} (G_g57 : {α : Type} → Int → Int → Int → Int → (Bool → Option α) → Option α) (G_g71 : {α : Type} → Int → Int → Int → Int → (Int → Int → Int → Int → Option α) → Option α)  (p530 : Int) (p531 : Int) (p532 : Int) (p533 : Int) (k557 : Int → Int → Int → Int → Int → Option α) : Option α :=
  G_g57 p530 p531 p532 p533
    (fun b534 =>
      cond (!b534)
       (
        k557 (0 : Int) (0 : Int) (0 : Int) (0 : Int) (1 : Int))
       (
        G_g71 p530 p531 p532 p533
          (fun x553 x554 x555 x556 =>
            k557 x553 x554 x555 x556 (0 : Int))))
def g33 {α : Type} (m : Nat) : Int → Int → Int → Int → (Int → Int → Int → Int → Int → Option α) → Option α :=
  g33b (g57 m) (g71 m)
def g33tp : List TP := [(.vl (.agg [(.one (.int .i64)), (.one (.int .i64)), (.one (.int .i64)), (.one (.int .i64))]))]
def g33bp : List BP := []
def g33K {α : Type} (G : Int → Int → Int → Int → (Int → Int → Int → Int → Int → Option α) → Option α) (ls : List Lf) (k : TV → List (List Seg) → List (List Seg) → Option α) : Option α :=
  G (lf ls 0).int (lf ls 1).int (lf ls 2).int (lf ls 3).int
    (fun y0 y1 y2 y3 y4 => k (.tup [(.agg [(.one (.int .i64 y0)), (.one (.int .i64 y1))]), (.agg [(.one (.int .i64 y2)), (.one (.int .i64 y3))]), (.sv (.int .i64 y4))]) [] [])
def g33hd (G_g57 : {α : Type} → Int → Int → Int → Int → (Bool → Option α) → Option α) (G_g71 : {α : Type} → Int → Int → Int → Int → (Int → Int → Int → Int → Option α) → Option α)  : Hd where
  call := fun f args Bs k => cond (Nat.beq f 57) (rowK g57tp g57bp (g57K G_g57) args Bs k) (cond (Nat.beq f 71) (rowK g71tp g71bp (g71K G_g71) args Bs k) (none))
  loop := fun id st k => none
  ro := fun f => cond (Nat.beq f 57) [0] (cond (Nat.beq f 71) [0] ([]))
def g33h (m : Nat) : Hd := g33hd (g57 m) (g71 m)
theorem g33Main (G_g57 : {α : Type} → Int → Int → Int → Int → (Bool → Option α) → Option α) (G_g71 : {α : Type} → Int → Int → Int → Int → (Int → Int → Int → Int → Option α) → Option α)  {α : Type} (ls : List Lf) (k : TV → List (List Seg) → List (List Seg) → Option α) :
    g33K (g33b G_g57 G_g71) ls k = evFun tab (g33hd G_g57 G_g71) Go.Proofs.Try.f33 (fillT g33tp ls).1 (fillB g33bp (fillT g33tp ls).2).1 k := by kernel_rfl
theorem g33Calls (m : Nat) : (g33h m).CallsOk Go.Proofs.Try.prog := (cok_cons (g57Ok m) (cok_cons (g71Ok m) cok_nil))
theorem g33Fn (m : Nat) : FnOk Go.Proofs.Try.prog 33 g33tp g33bp (fun {α} => g33K (g33 (α := α) m)) :=
  fn_ok (tab := tab) (h := g33h m) (fn := Go.Proofs.Try.f33) (F := fun {α} => g33K (g33 (α := α) m)) tabOk (g33Calls m) mixed (by kernel_rfl) (by kernel_rfl) (fun c hc => by
    rw [bodyOf_some hc]
    exact loopsOk_of _ (fun p hp => by rw [show loopsOf (bodyOf Go.Proofs.Try.f33) = [] by kernel_rfl] at hp; cases hp))
    (fun α ls k => g33Main (g57 m) (g71 m) ls k)
theorem g33Ok (m : Nat) : RowOk Go.Proofs.Try.prog 33 (fun {α} => rowK g33tp g33bp (g33K (g33 (α := α) m))) := row_of (g33Fn m)

/-! ### g34: impl.ImageOf -/
def g34b {α : Type} (G_g19 : {α : Type} → Int → Int → Int → Int → (Bool → Option α) → Option α) (G_g26 : {α : Type} → Int → Int → (Int → Int → Int → Option α) → Option α) (G_g24 : {α : Type} → Int → Int → Int → Int → (Int → Int → Option α) → Option α)  (p563 : Int) (p564 : Int) (p565 : Int) (p566 : Int) (k582 : Int → Int → Int → Int → Int → Option α) : Option α :=
  G_g19 p563 p564 p565 p566
    (fun b567 =>
      cond (!b567)
       (
        k582 (0 : Int) (0 : Int) (0 : Int) (0 : Int) (1 : Int))
       (
        G_g26 (IntKind.wrap .i64 (p564 - p563)) (IntKind.wrap .i64 (p566 - p565))
          (fun x571 x572 x573 =>
            G_g26 (IntKind.wrap .i64 (p563 + p564)) (IntKind.wrap .i64 (p565 + p566))
              (fun x576 x577 x578 =>
                G_g24 x571 x572 x576 x577
                  (fun x579 x580 =>
                    cond (decide (x579 > (0 : Int)))
                     (
                      k582 x576 x577 x571 x572 (0 : Int))
                     (
                      k582 x571 x572 x576 x577 (0 : Int)))))))
def g34 {α : Type} (m : Nat) : Int → Int → Int → Int → (Int → Int → Int → Int → Int → Option α) → Option α :=
  g34b (g19 m) (g26 m) (g24 m)
def g34tp : List TP := [(.vl (.agg [(.one (.int .i64)), (.one (.int .i64)), (.one (.int .i64)), (.one (.int .i64))]))]
def g34bp : List BP := []
def g34K {α : Type} (G : Int → Int → Int → Int → (Int → Int → Int → Int → Int → Option α) → Option α) (ls : List Lf) (k : TV → List (List Seg) → List (List Seg) → Option α) : Option α :=
  G (lf ls 0).int (lf ls 1).int (lf ls 2).int (lf ls 3).int
    (fun y0 y1 y2 y3 y4 => k (.tup [(.agg [(.one (.int .i64 y0)), (.one (.int .i64 y1))]), (.agg [(.one (.int .i64 y2)), (.one (.int .i64 y3))]), (.sv (.int .i64 y4))]) [] [])
def g34hd (G_g19 : {α : Type} → Int → Int → Int → Int → (Bool → Option α) → Option α) (G_g26 : {α : Type} → Int → Int → (Int → Int → Int → Option α) → Option α) (G_g24 : {α : Type} → Int → Int → Int → Int → (Int → Int → Option α) → Option α)  : Hd where
  call := fun f args Bs k => cond (Nat.beq f 19) (rowK g19tp g19bp (g19K G_g19) args Bs k) (cond (Nat.beq f 26) (rowK g26tp g26bp (g26K G_g26) args Bs k) (cond (Nat.beq f 24) (rowK g24tp g24bp (g24K G_g24) args Bs k) (none)))
  loop := fun id st k => none
  ro := fun f => []
def g34h (m : Nat) : Hd := g34hd (g19 m) (g26 m) (g24 m)
theorem g34Main (G_g19 : {α : Type} → Int → Int → Int → Int → (Bool → Option α) → Option α) (G_g26 : {α : Type} → Int → Int → (Int → Int → Int → Option α) → Option α) (G_g24 : {α : Type} → Int → Int → Int → Int → (Int → Int → Option α) → Option α)  {α : Type} (ls : List Lf) (k : TV → List (List Seg) → List (List Seg) → Option α) :
    g34K (g34b G_g19 G_g26 G_g24) ls k = evFun tab (g34hd G_g19 G_g26 G_g24) Go.Proofs.Try.f34 (fillT g34tp ls).1 (fillB g34bp (fillT g34tp ls).2).1 k := by kernel_rfl
theorem g34Calls (m : Nat) : (g34h m).CallsOk Go.Proofs.Try.prog := (cok_cons (g19Ok m) (cok_cons (g26Ok m) (cok_cons (g24Ok m) cok_nil)))
theorem g34Fn (m : Nat) : FnOk Go.Proofs.Try.prog 34 g34tp g34bp (fun {α} => g34K (g34 (α := α) m)) :=
  fn_ok (tab := tab) (h := g34h m) (fn := Go.Proofs.Try.f34) (F := fun {α} => g34K (g34 (α := α) m)) tabOk (g34Calls m) mixed (by kernel_rfl) (by kernel_rfl) (fun c hc => by
    rw [bodyOf_some hc]
    exact loopsOk_of _ (fun p hp => by rw [show loopsOf (bodyOf Go.Proofs.Try.f34) = [] by kernel_rfl] at hp; cases hp))
    (fun α ls k => g34Main (g19 m) (g26 m) (g24 m) ls k)
theorem g34Ok (m : Nat) : RowOk Go.Proofs.Try.prog 34 (fun {α} => rowK g34tp g34bp (g34K (g34 (α := α) m))) := row_of (g34Fn m)

/-! ### g9: laws.FnExactImageOf -/
def g9b {α : Type} (G_g18 : {α : Type} → Int → Int → Int → Int → (Option α) → Option α) (G_g33 : {α : Type} → Int → Int → Int → Int → (Int → Int → Int → Int → Int → Option α) → Option α) (G_g34 : {α : Type} → Int → Int → Int → Int → (Int → Int → Int → Int → Int → Option α) → Option α) (G_g27 : {α : Type} → Int → Int → Int → Int → (Bool → Option α) → Option α)  (p526 : Int) (p527 : Int) (p528 : Int) (p529 : Int) (k593 : Bool → Option α) : Option α :=
  G_g18 p526 p527 p528 p529
    (
      G_g33 p526 p527 p528 p529
        (fun x558 x559 x560 x561 x562 =>
          G_g18 p526 p527 p528 p529
            (
              G_g34 p526 p527 p528 p529
                (fun x583 x584 x585 x586 x587 =>
                  G_g27 x583 x584 x558 x559
                    (fun b588 =>
                      cond (!b588)
                       (
                        k593 false)
                       (
                        G_g27 x585 x586 x560 x561
                          (fun b590 =>
                            cond (!b590)
                             (
                              k593 false)
                             (
                              cond (x587 != x562)
                               (
                                k593 false)
                               (
                                k593 true)))))))))
def g9 {α : Type} (m : Nat) : Int → Int → Int → Int → (Bool → Option α) → Option α :=
  g9b (g18 m) (g33 m) (g34 m) (g27 m)
def g9tp : List TP := [(.vl (.agg [(.one (.int .i64)), (.one (.int .i64)), (.one (.int .i64)), (.one (.int .i64))]))]
def g9bp : List BP := []
def g9K {α : Type} (G : Int → Int → Int → Int → (Bool → Option α) → Option α) (ls : List Lf) (k : TV → List (List Seg) → List (List Seg) → Option α) : Option α :=
  G (lf ls 0).int (lf ls 1).int (lf ls 2).int (lf ls 3).int
    (fun y0 => k (.vl (.sv (.bool y0))) [] [])
def g9hd (G_g18 : {α : Type} → Int → Int → Int → Int → (Option α) → Option α) (G_g33 : {α : Type} → Int → Int → Int → Int → (Int → Int → Int → Int → Int → Option α) → Option α) (G_g34 : {α : Type} → Int → Int → Int → Int → (Int → Int → Int → Int → Int → Option α) → Option α) (G_g27 : {α : Type} → Int → Int → Int → Int → (Bool → Option α) → Option α)  : Hd where
  call := fun f args Bs k => cond (Nat.beq f 18) (rowK g18tp g18bp (g18K G_g18) args Bs k) (cond (Nat.beq f 33) (rowK g33tp g33bp (g33K G_g33) args Bs k) (cond (Nat.beq f 34) (rowK g34tp g34bp (g34K G_g34) args Bs k) (cond (Nat.beq f 27) (rowK g27tp g27bp (g27K G_g27) args Bs k) (none))))
  loop := fun id st k => none
  ro := fun f => []
def g9h (m : Nat) : Hd := g9hd (g18 m) (g33 m) (g34 m) (g27 m)
theorem g9Main (G_g18 : {α : Type} → Int → Int → Int → Int → (Option α) → Option α) (G_g33 : {α : Type} → Int → Int → Int → Int → (Int → Int → Int → Int → Int → Option α) → Option α) (G_g34 : {α : Type} → Int → Int → Int → Int → (Int → Int → Int → Int → Int → Option α) → Option α) (G_g27 : {α : Type} → Int → Int → Int → Int → (Bool → Option α) → Option α)  {α : Type} (ls : List Lf) (k : TV → List (List Seg) → List (List Seg) → Option α) :
    g9K (g9b G_g18 G_g33 G_g34 G_g27) ls k = evFun tab (g9hd G_g18 G_g33 G_g34 G_g27) Go.Proofs.Try.f9 (fillT g9tp ls).1 (fillB g9bp (fillT g9tp ls).2).1 k := by kernel_rfl
theorem g9Calls (m : Nat) : (g9h m).CallsOk Go.Proofs.Try.prog := (cok_cons (g18Ok m) (cok_cons (g33Ok m) (cok_cons (g34Ok m) (cok_cons (g27Ok m) cok_nil))))
theorem g9Fn (m : Nat) : FnOk Go.Proofs.Try.prog 9 g9tp g9bp (fun {α} => g9K (g9 (α := α) m)) :=
  fn_ok (tab := tab) (h := g9h m) (fn := Go.Proofs.Try.f9) (F := fun {α} => g9K (g9 (α := α) m)) tabOk (g9Calls m) mixed (by kernel_rfl) (by kernel_rfl) (fun c hc => by
    rw [bodyOf_some hc]
    exact loopsOk_of _ (fun p hp => by rw [show loopsOf (bodyOf Go.Proofs.Try.f9) = [] by kernel_rfl] at hp; cases hp))
    (fun α ls k => g9Main (g18 m) (g33 m) (g34 m) (g27 m) ls k)
theorem g9Ok (m : Nat) : RowOk Go.Proofs.Try.prog 9 (fun {α} => rowK g9tp g9bp (g9K (g9 (α := α) m))) := row_of (g9Fn m)
end Go.Proofs.Ytbpljilgekneoaa.Sx
