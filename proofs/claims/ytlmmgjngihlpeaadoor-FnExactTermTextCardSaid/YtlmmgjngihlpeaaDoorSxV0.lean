/- Functions. Printed by our own sx.py. -/
import Derived.Test.YtlmmgjngihlpeaaDoorSxT
namespace Go.Proofs.YtlmmgjngihlpeaaDoor.Sx
open Go
set_option linter.unusedVariables false
set_option maxRecDepth 100000
abbrev S_g126 (α : Type) : Type := Int → (ByteArray → Option α) → Option α
def g126b {α : Type}   (p25 : Int) (k33 : ByteArray → Option α) : Option α :=
  cond (decide (p25 < (10 : Int)))
   (
    let x27 : Int := IntKind.wrap .i64 (p25 + (1 : Int))
    if 0 ≤ p25 ∧ p25 ≤ x27 ∧ x27 ≤ ((strC1.size : Nat) : Int) then
      k33 (ByteArray.extract strC1 (Int.toNat p25) (Int.toNat x27))
    else
      none)
   (
    let x29 : Int := IntKind.wrap .i64 (p25 * (2 : Int))
    let x31 : Int := IntKind.wrap .i64 ((IntKind.wrap .i64 (p25 * (2 : Int))) + (2 : Int))
    if 0 ≤ x29 ∧ x29 ≤ x31 ∧ x31 ≤ ((strC2.size : Nat) : Int) then
      k33 (ByteArray.extract strC2 (Int.toNat x29) (Int.toNat x31))
    else
      none)
def g126 {α : Type} (m : Nat) : S_g126 α :=
  g126b
def g126tp : List TP := [(.vl (.sv (.int .i64)))]
def g126bp : List BP := []
def g126K {α : Type} (G : S_g126 α) (ls : List Lf) (k : KRe α) : Option α :=
  G (lf ls 0).int
    (fun y0 => k (.vl (.sv (.str y0))) [] [])
def g126R {α : Type} (G : S_g126 α) := rowK g126tp g126bp (g126K G)
def g126hd   : Hd where
  call := fun f args Bs k => none
  loop := fun id st k => none
  ro := fun f => []
def g126h (m : Nat) : Hd := g126hd
theorem g126Main   {α : Type} (ls : List Lf) (k : KRe α) :
    g126K (g126b) ls k = evFun tab (g126hd) Go.Proofs.Tryd.f126 (fillT g126tp ls).1 (fillB g126bp (fillT g126tp ls).2).1 k := by kernel_rfl
theorem g126Calls (m : Nat) : (g126h m).CallsOk Go.Proofs.Tryd.prog := cok_nil
theorem g126Fn (m : Nat) : FnOk Go.Proofs.Tryd.prog 126 g126tp g126bp (fun {α} => g126K (g126 m (α := α))) :=
  fn_ok (tab := tab) (h := g126h m) (fn := Go.Proofs.Tryd.f126) (F := fun {α} => g126K (g126 m (α := α))) tabOk (g126Calls m) mixed (by kernel_rfl) (by kernel_rfl) (fun c hc => by
    rw [bodyOf_some hc]
    exact loopsOk_of _ (fun p hp => by rw [show loopsOf (bodyOf Go.Proofs.Tryd.f126) = [] by kernel_rfl] at hp; cases hp))
    (fun α ls k => g126Main ls k)
theorem g126Ok (m : Nat) : RowOk Go.Proofs.Tryd.prog 126 (fun {α} => g126R (g126 m (α := α))) := row_of (g126Fn m)
abbrev S_g7 (α : Type) : Type := Nat → Nat → Nat → Int → Nat → Ty0 → (Int → Option α) → Option α
def g7b {α : Type}   (m39 : Nat) (m40 : Nat) (m41 : Nat) (p42 : Int) (m43 : Nat) (u44 : Ty0) (k47 : Int → Option α) : Option α :=
  let x45 : Int := IntKind.wrap .i64 (p42 - ((m40 : Nat) : Int))
  cond (decide (x45 < (0 : Int)))
   (
    k47 (-1 : Int))
   (
    k47 x45)
def g7 {α : Type} (m : Nat) : S_g7 α :=
  g7b
def g7tp : List TP := [(.vl (.sv (.sla 0 0 5))), (.vl (.sv (.int .i64)))]
def g7bp : List BP := [(false, [(.seqv (.rc [.i8, .i16, .i16, .i64, .i64]))])]
def g7K {α : Type} (G : S_g7 α) (ls : List Lf) (k : KRe α) : Option α :=
  G (lf ls 0).nat (lf ls 1).nat (lf ls 2).nat (lf ls 3).int (lf ls 4).nat ((lf ls 5).lst (.rc [.i8, .i16, .i16, .i64, .i64]))
    (fun y0 => k (.vl (.sv (.int .i64 y0))) [[(.seq (.rc [.i8, .i16, .i16, .i64, .i64]) (lf ls 4).nat ((lf ls 5).lst (.rc [.i8, .i16, .i16, .i64, .i64])))]] [])
def g7R {α : Type} (G : S_g7 α) := rowK g7tp g7bp (g7K G)
def g7hd   : Hd where
  call := fun f args Bs k => none
  loop := fun id st k => none
  ro := fun f => []
def g7h (m : Nat) : Hd := g7hd
theorem g7Main   {α : Type} (ls : List Lf) (k : KRe α) :
    g7K (g7b) ls k = evFun tab (g7hd) Go.Proofs.Tryd.f7 (fillT g7tp ls).1 (fillB g7bp (fillT g7tp ls).2).1 k := by kernel_rfl
theorem g7Calls (m : Nat) : (g7h m).CallsOk Go.Proofs.Tryd.prog := cok_nil
theorem g7Fn (m : Nat) : FnOk Go.Proofs.Tryd.prog 7 g7tp g7bp (fun {α} => g7K (g7 m (α := α))) :=
  fn_ok (tab := tab) (h := g7h m) (fn := Go.Proofs.Tryd.f7) (F := fun {α} => g7K (g7 m (α := α))) tabOk (g7Calls m) mixed (by kernel_rfl) (by kernel_rfl) (fun c hc => by
    rw [bodyOf_some hc]
    exact loopsOk_of _ (fun p hp => by rw [show loopsOf (bodyOf Go.Proofs.Tryd.f7) = [] by kernel_rfl] at hp; cases hp))
    (fun α ls k => g7Main ls k)
theorem g7Ok (m : Nat) : RowOk Go.Proofs.Tryd.prog 7 (fun {α} => g7R (g7 m (α := α))) := row_of (g7Fn m)
abbrev S_g39 (α : Type) : Type := Int → Int → Int → Int → Int → (Option α) → Option α
def g39b {α : Type}   (p73 : Int) (p74 : Int) (p75 : Int) (p76 : Int) (p77 : Int) (k78 : Option α) : Option α :=
  k78
def g39 {α : Type} (m : Nat) : S_g39 α :=
  g39b
def g39tp : List TP := [(.vl (.agg [(.one (.int .i8)), (.one (.int .i16)), (.one (.int .i16)), (.one (.int .i64)), (.one (.int .i64))]))]
def g39bp : List BP := []
def g39K {α : Type} (G : S_g39 α) (ls : List Lf) (k : KRe α) : Option α :=
  G (lf ls 0).int (lf ls 1).int (lf ls 2).int (lf ls 3).int (lf ls 4).int
    (k (.vl (.agg [(.one (.int .i8 (lf ls 0).int)), (.one (.int .i16 (lf ls 1).int)), (.one (.int .i16 (lf ls 2).int)), (.one (.int .i64 (lf ls 3).int)), (.one (.int .i64 (lf ls 4).int))])) [] [])
def g39R {α : Type} (G : S_g39 α) := rowK g39tp g39bp (g39K G)
def g39hd   : Hd where
  call := fun f args Bs k => none
  loop := fun id st k => none
  ro := fun f => []
def g39h (m : Nat) : Hd := g39hd
theorem g39Main   {α : Type} (ls : List Lf) (k : KRe α) :
    g39K (g39b) ls k = evFun tab (g39hd) Go.Proofs.Tryd.f39 (fillT g39tp ls).1 (fillB g39bp (fillT g39tp ls).2).1 k := by kernel_rfl
theorem g39Calls (m : Nat) : (g39h m).CallsOk Go.Proofs.Tryd.prog := cok_nil
theorem g39Fn (m : Nat) : FnOk Go.Proofs.Tryd.prog 39 g39tp g39bp (fun {α} => g39K (g39 m (α := α))) :=
  fn_ok (tab := tab) (h := g39h m) (fn := Go.Proofs.Tryd.f39) (F := fun {α} => g39K (g39 m (α := α))) tabOk (g39Calls m) mixed (by kernel_rfl) (by kernel_rfl) (fun c hc => by
    rw [bodyOf_some hc]
    exact loopsOk_of _ (fun p hp => by rw [show loopsOf (bodyOf Go.Proofs.Tryd.f39) = [] by kernel_rfl] at hp; cases hp))
    (fun α ls k => g39Main ls k)
theorem g39Ok (m : Nat) : RowOk Go.Proofs.Tryd.prog 39 (fun {α} => g39R (g39 m (α := α))) := row_of (g39Fn m)
abbrev S_g9 (α : Type) : Type := Nat → Nat → Nat → Nat → Ty0 → (Ty0 → Option α) → Option α
abbrev S_g9l0 (α : Type) : Type := Nat → Nat → Nat → Nat → Nat → Nat → Nat → Ty0 → Nat → (Ty0 → Option α) → Int → Ty0 → Option α
def g9l0b {α : Type} (G_g39 : {α : Type} → S_g39 α)  (m56 : Nat) (m57 : Nat) (m58 : Nat) (m59 : Nat) (m60 : Nat) (m61 : Nat) (m63 : Nat) (a64 : Ty0) (m65 : Nat) (k81 : Ty0 → Option α) (r82 : Int → Ty0 → Option α) (v62 : Int) (a66 : Ty0) : Option α :=
  cond (decide (v62 < ((m57 : Nat) : Int)))
   (
    if 0 ≤ v62 ∧ v62 < (m57 : Nat) then
      if (m56 + v62.toNat) < m63 then
        let x68 : Int := (List.getD a64 (m56 + v62.toNat) []).headD 0
        let x69 : Int := (List.getD a64 (m56 + v62.toNat) []).tail.headD 0
        let x70 : Int := (List.getD a64 (m56 + v62.toNat) []).tail.tail.headD 0
        let x71 : Int := (List.getD a64 (m56 + v62.toNat) []).tail.tail.tail.headD 0
        let x72 : Int := (List.getD a64 (m56 + v62.toNat) []).tail.tail.tail.tail.headD 0
        G_g39 x68 x69 x70 x71 x72
        (
        if 0 ≤ v62 ∧ v62 < (m60 : Nat) then
        if (m59 + v62.toNat) < m65 then
        r82 (IntKind.wrap .i64 (v62 + (1 : Int))) (List.set a66 (m59 + v62.toNat) [x68, x69, x70, x71, x72])
        else
        none
        else
        none)
      else
        none
    else
      none)
   (
    k81 a66)
def g9l0 {α : Type} (G_g39 : {α : Type} → S_g39 α)  (m56 : Nat) (m57 : Nat) (m58 : Nat) (m59 : Nat) (m60 : Nat) (m61 : Nat) (m63 : Nat) (a64 : Ty0) (m65 : Nat) (k81 : Ty0 → Option α) : Nat → Int → Ty0 → Option α
  | 0 => fun _ _ => none
  | m + 1 => fun v62 a66 => g9l0b G_g39 m56 m57 m58 m59 m60 m61 m63 a64 m65 k81 (g9l0 G_g39 m56 m57 m58 m59 m60 m61 m63 a64 m65 k81 m) v62 a66
def g9l0M {α : Type} (m : Nat) : S_g9l0 α :=
  fun m56 m57 m58 m59 m60 m61 m63 a64 m65 k81 v62 a66 => g9l0 (g39 m) m56 m57 m58 m59 m60 m61 m63 a64 m65 k81 m v62 a66
def g9l0D : LoopD := { n := 23, low := [0], sl := [0, 3, 4], bl := [0, 1000001], tp := [(.vl (.sv (.sla 0 0 5))), (.vl (.sv (.slc 1000001 0 5))), (.vl (.sv (.int .i64)))], bp := [(false, [(.seqv (.rc [.i8, .i16, .i16, .i64, .i64]))]), (true, [(.seqv (.rc [.i8, .i16, .i16, .i64, .i64]))])], xs := [(2, [3])] }
def g9l0K {α : Type} (L : S_g9l0 α) (ls : List Lf) (k : KEx α) : Option α :=
  L (lf ls 0).nat (lf ls 1).nat (lf ls 2).nat (lf ls 3).nat (lf ls 4).nat (lf ls 5).nat (lf ls 7).nat ((lf ls 8).lst (.rc [.i8, .i16, .i16, .i64, .i64])) (lf ls 9).nat
    (fun y6 => k .normal (mkSt 23 [3] [(.vl (.sv (.slc 1000001 0 5 (lf ls 3).nat (lf ls 4).nat (lf ls 5).nat)))] [0, 1000001] [(false, [(.seq (.rc [.i8, .i16, .i16, .i64, .i64]) (lf ls 7).nat ((lf ls 8).lst (.rc [.i8, .i16, .i16, .i64, .i64])))]), (true, [(.seq (.rc [.i8, .i16, .i16, .i64, .i64]) (lf ls 9).nat y6)])]))
    (lf ls 6).int ((lf ls 10).lst (.rc [.i8, .i16, .i16, .i64, .i64]))
def g9b {α : Type} (G_g39 : {α : Type} → S_g39 α) (L_g9l0 : {α : Type} → S_g9l0 α) (m50 : Nat) (m51 : Nat) (m52 : Nat) (m53 : Nat) (u54 : Ty0) (k84 : Ty0 → Option α) : Option α :=
  if ((m51 : Nat) : Int) = ((m51 : Nat) : Int) ∧ 0 ≤ ((m51 : Nat) : Int) ∧ ((m51 : Nat) : Int) ≤ 1048576 then
    L_g9l0 m50 m51 m52 0 m51 m51 m53 u54 m51
      (fun l83 =>
        k84 l83)
      (0 : Int) (List.replicate m51 ([] : List Int))
  else
    none
def g9 {α : Type} (m : Nat) : S_g9 α :=
  g9b (g39 m) (g9l0M m)
def g9tp : List TP := [(.vl (.sv (.sla 0 0 5)))]
def g9bp : List BP := [(false, [(.seqv (.rc [.i8, .i16, .i16, .i64, .i64]))])]
def g9K {α : Type} (G : S_g9 α) (ls : List Lf) (k : KRe α) : Option α :=
  G (lf ls 0).nat (lf ls 1).nat (lf ls 2).nat (lf ls 3).nat ((lf ls 4).lst (.rc [.i8, .i16, .i16, .i64, .i64]))
    (fun y6 => k (.vl (.sv (.slc 1 0 5 0 (lf ls 1).nat (lf ls 1).nat))) [[(.seq (.rc [.i8, .i16, .i16, .i64, .i64]) (lf ls 3).nat ((lf ls 4).lst (.rc [.i8, .i16, .i16, .i64, .i64])))]] [[(.seq (.rc [.i8, .i16, .i16, .i64, .i64]) (lf ls 1).nat y6)]])
def g9R {α : Type} (G : S_g9 α) := rowK g9tp g9bp (g9K G)
def g9hd (G_g39 : {α : Type} → S_g39 α) (L_g9l0 : {α : Type} → S_g9l0 α) : Hd where
  call := fun f args Bs k => cond (Nat.beq f 39) (g39R G_g39 args Bs k) (none)
  loop := fun id st k => cond (Nat.beq id 0) (loopH g9l0D (g9l0K L_g9l0) st k) (none)
  ro := fun f => []
def g9h (m : Nat) : Hd := g9hd (g39 m) (g9l0M m)
theorem g9l0Step (G_g39 : {α : Type} → S_g39 α) (L_g9l0 : {α : Type} → S_g9l0 α) {α : Type} (L : S_g9l0 α) (ls : List Lf) (k : KEx α) :
    g9l0K (fun m56 m57 m58 m59 m60 m61 m63 a64 m65 k81 v62 a66 => g9l0b G_g39 m56 m57 m58 m59 m60 m61 m63 a64 m65 k81 (L m56 m57 m58 m59 m60 m61 m63 a64 m65 k81) v62 a66) ls k = ev tab (g9hd G_g39 L_g9l0) (bodyAt Go.Proofs.Tryd.f9 0) (atHead g9l0D ls) (loopK g9l0D 0 (loopH g9l0D (g9l0K L)) k) := by kernel_rfl
theorem g9Main (G_g39 : {α : Type} → S_g39 α) (L_g9l0 : {α : Type} → S_g9l0 α) {α : Type} (ls : List Lf) (k : KRe α) :
    g9K (g9b G_g39 L_g9l0) ls k = evFun tab (g9hd G_g39 L_g9l0) Go.Proofs.Tryd.f9 (fillT g9tp ls).1 (fillB g9bp (fillT g9tp ls).2).1 k := by kernel_rfl
theorem g9Calls (m : Nat) : (g9h m).CallsOk Go.Proofs.Tryd.prog := (cok_cons (g39Ok m) cok_nil)
theorem g9l0Ok (m : Nat) (α : Type) (st : St) (k : KEx α) (r : α) (h : (g9h m).loop 0 st k = some r) :
    LoopS Go.Proofs.Tryd.prog 0 (bodyAt Go.Proofs.Tryd.f9 0) st k r :=
  loop_ok (tab := tab) (h := g9h m) (F := fun n ls k => g9l0K (fun m56 m57 m58 m59 m60 m61 m63 a64 m65 k81 v62 a66 => g9l0 (g39 m) m56 m57 m58 m59 m60 m61 m63 a64 m65 k81 n v62 a66) ls k) tabOk (g9Calls m) mixed (loopsOk_of _ (fun p hp => by rw [show loopsOf (bodyAt Go.Proofs.Tryd.f9 0) = [] by kernel_rfl] at hp; cases hp))
    (fun _ _ => rfl) (fun n ls k => g9l0Step (g39 m) (g9l0M m) (fun m56 m57 m58 m59 m60 m61 m63 a64 m65 k81 => g9l0 (g39 m) m56 m57 m58 m59 m60 m61 m63 a64 m65 k81 n) ls k) (n := m) h
theorem g9Fn (m : Nat) : FnOk Go.Proofs.Tryd.prog 9 g9tp g9bp (fun {α} => g9K (g9 m (α := α))) :=
  fn_ok (tab := tab) (h := g9h m) (fn := Go.Proofs.Tryd.f9) (F := fun {α} => g9K (g9 m (α := α))) tabOk (g9Calls m) mixed (by kernel_rfl) (by kernel_rfl) (fun c hc => by
    rw [bodyOf_some hc]
    exact loopsOk_of _ (fun p hp => by
    rw [show loopsOf (bodyOf Go.Proofs.Tryd.f9) = [(0, bodyAt Go.Proofs.Tryd.f9 0)] by kernel_rfl] at hp
    simp only [List.mem_cons, List.not_mem_nil, or_false] at hp
    rcases hp with rfl
    exact g9l0Ok m))
    (fun α ls k => g9Main (g39 m) (g9l0M m) ls k)
theorem g9Ok (m : Nat) : RowOk Go.Proofs.Tryd.prog 9 (fun {α} => g9R (g9 m (α := α))) := row_of (g9Fn m)
abbrev S_g76 (α : Type) : Type := Int → Int → Int → (Bool → Option α) → Option α
def g76b {α : Type}   (p96 : Int) (p97 : Int) (p98 : Int) (k101 : Bool → Option α) : Option α :=
  cond (decide (p96 ≥ p97))
   (
    k101 (decide (p96 ≤ p98)))
   (
    k101 false)
def g76 {α : Type} (m : Nat) : S_g76 α :=
  g76b
def g76tp : List TP := [(.vl (.sv (.int .i64))), (.vl (.sv (.int .i64))), (.vl (.sv (.int .i64)))]
def g76bp : List BP := []
def g76K {α : Type} (G : S_g76 α) (ls : List Lf) (k : KRe α) : Option α :=
  G (lf ls 0).int (lf ls 1).int (lf ls 2).int
    (fun y0 => k (.vl (.sv (.bool y0))) [] [])
def g76R {α : Type} (G : S_g76 α) := rowK g76tp g76bp (g76K G)
def g76hd   : Hd where
  call := fun f args Bs k => none
  loop := fun id st k => none
  ro := fun f => []
def g76h (m : Nat) : Hd := g76hd
theorem g76Main   {α : Type} (ls : List Lf) (k : KRe α) :
    g76K (g76b) ls k = evFun tab (g76hd) Go.Proofs.Tryd.f76 (fillT g76tp ls).1 (fillB g76bp (fillT g76tp ls).2).1 k := by kernel_rfl
theorem g76Calls (m : Nat) : (g76h m).CallsOk Go.Proofs.Tryd.prog := cok_nil
theorem g76Fn (m : Nat) : FnOk Go.Proofs.Tryd.prog 76 g76tp g76bp (fun {α} => g76K (g76 m (α := α))) :=
  fn_ok (tab := tab) (h := g76h m) (fn := Go.Proofs.Tryd.f76) (F := fun {α} => g76K (g76 m (α := α))) tabOk (g76Calls m) mixed (by kernel_rfl) (by kernel_rfl) (fun c hc => by
    rw [bodyOf_some hc]
    exact loopsOk_of _ (fun p hp => by rw [show loopsOf (bodyOf Go.Proofs.Tryd.f76) = [] by kernel_rfl] at hp; cases hp))
    (fun α ls k => g76Main ls k)
theorem g76Ok (m : Nat) : RowOk Go.Proofs.Tryd.prog 76 (fun {α} => g76R (g76 m (α := α))) := row_of (g76Fn m)
abbrev S_g105 (α : Type) : Type := Int → (Bool → Option α) → Option α
def g105b {α : Type}   (p120 : Int) (k124 : Bool → Option α) : Option α :=
  cond (p120 == (6 : Int))
   (
    k124 true)
   (
    cond (p120 == (7 : Int))
     (
      k124 true)
     (
      k124 (p120 == (10 : Int))))
def g105 {α : Type} (m : Nat) : S_g105 α :=
  g105b
def g105tp : List TP := [(.vl (.sv (.int .i8)))]
def g105bp : List BP := []
def g105K {α : Type} (G : S_g105 α) (ls : List Lf) (k : KRe α) : Option α :=
  G (lf ls 0).int
    (fun y0 => k (.vl (.sv (.bool y0))) [] [])
def g105R {α : Type} (G : S_g105 α) := rowK g105tp g105bp (g105K G)
def g105hd   : Hd where
  call := fun f args Bs k => none
  loop := fun id st k => none
  ro := fun f => []
def g105h (m : Nat) : Hd := g105hd
theorem g105Main   {α : Type} (ls : List Lf) (k : KRe α) :
    g105K (g105b) ls k = evFun tab (g105hd) Go.Proofs.Tryd.f105 (fillT g105tp ls).1 (fillB g105bp (fillT g105tp ls).2).1 k := by kernel_rfl
theorem g105Calls (m : Nat) : (g105h m).CallsOk Go.Proofs.Tryd.prog := cok_nil
theorem g105Fn (m : Nat) : FnOk Go.Proofs.Tryd.prog 105 g105tp g105bp (fun {α} => g105K (g105 m (α := α))) :=
  fn_ok (tab := tab) (h := g105h m) (fn := Go.Proofs.Tryd.f105) (F := fun {α} => g105K (g105 m (α := α))) tabOk (g105Calls m) mixed (by kernel_rfl) (by kernel_rfl) (fun c hc => by
    rw [bodyOf_some hc]
    exact loopsOk_of _ (fun p hp => by rw [show loopsOf (bodyOf Go.Proofs.Tryd.f105) = [] by kernel_rfl] at hp; cases hp))
    (fun α ls k => g105Main ls k)
theorem g105Ok (m : Nat) : RowOk Go.Proofs.Tryd.prog 105 (fun {α} => g105R (g105 m (α := α))) := row_of (g105Fn m)
abbrev S_g106 (α : Type) : Type := Int → (Bool → Option α) → Option α
def g106b {α : Type}   (p136 : Int) (k143 : Bool → Option α) : Option α :=
  cond (decide (p136 ≥ (2 : Int)))
   (
    cond (decide (p136 ≤ (5 : Int)))
     (
      k143 true)
     (
      cond (p136 == (8 : Int))
       (
        k143 true)
       (
        k143 (p136 == (9 : Int)))))
   (
    cond (p136 == (8 : Int))
     (
      k143 true)
     (
      k143 (p136 == (9 : Int))))
def g106 {α : Type} (m : Nat) : S_g106 α :=
  g106b
def g106tp : List TP := [(.vl (.sv (.int .i8)))]
def g106bp : List BP := []
def g106K {α : Type} (G : S_g106 α) (ls : List Lf) (k : KRe α) : Option α :=
  G (lf ls 0).int
    (fun y0 => k (.vl (.sv (.bool y0))) [] [])
def g106R {α : Type} (G : S_g106 α) := rowK g106tp g106bp (g106K G)
def g106hd   : Hd where
  call := fun f args Bs k => none
  loop := fun id st k => none
  ro := fun f => []
def g106h (m : Nat) : Hd := g106hd
theorem g106Main   {α : Type} (ls : List Lf) (k : KRe α) :
    g106K (g106b) ls k = evFun tab (g106hd) Go.Proofs.Tryd.f106 (fillT g106tp ls).1 (fillB g106bp (fillT g106tp ls).2).1 k := by kernel_rfl
theorem g106Calls (m : Nat) : (g106h m).CallsOk Go.Proofs.Tryd.prog := cok_nil
theorem g106Fn (m : Nat) : FnOk Go.Proofs.Tryd.prog 106 g106tp g106bp (fun {α} => g106K (g106 m (α := α))) :=
  fn_ok (tab := tab) (h := g106h m) (fn := Go.Proofs.Tryd.f106) (F := fun {α} => g106K (g106 m (α := α))) tabOk (g106Calls m) mixed (by kernel_rfl) (by kernel_rfl) (fun c hc => by
    rw [bodyOf_some hc]
    exact loopsOk_of _ (fun p hp => by rw [show loopsOf (bodyOf Go.Proofs.Tryd.f106) = [] by kernel_rfl] at hp; cases hp))
    (fun α ls k => g106Main ls k)
theorem g106Ok (m : Nat) : RowOk Go.Proofs.Tryd.prog 106 (fun {α} => g106R (g106 m (α := α))) := row_of (g106Fn m)
abbrev S_g77 (α : Type) : Type := Nat → Int → Nat → Ty0 → (Bool → Option α) → Option α
def g77b {α : Type} (G_g105 : {α : Type} → S_g105 α) (G_g76 : {α : Type} → S_g76 α) (G_g106 : {α : Type} → S_g106 α)  (m111 : Nat) (p112 : Int) (m113 : Nat) (u114 : Ty0) (k184 : Bool → Option α) : Option α :=
  if m111 < m113 then
    cond (decide (((List.getD u114 m111 []).headD 0) < (1 : Int)))
     (
      k184 false)
     (
      if m111 < m113 then
        cond (decide (((List.getD u114 m111 []).headD 0) > (12 : Int)))
        (
        k184 false)
        (
        if m111 < m113 then
        G_g105 ((List.getD u114 m111 []).headD 0)
        (fun b125 =>
        cond b125
        (
        if m111 < m113 then
        G_g76 (IntKind.wrap .i64 (((List.getD u114 m111 []).tail).headD 0)) (0 : Int) (IntKind.wrap .i64 (p112 - (1 : Int)))
        (fun b129 =>
        cond (!b129)
        (
        k184 false)
        (
        if m111 < m113 then
        cond ((((List.getD u114 m111 []).tail.tail.tail).headD 0) != (0 : Int))
        (
        k184 false)
        (
        if m111 < m113 then
        cond ((((List.getD u114 m111 []).tail.tail.tail.tail).headD 0) != (0 : Int))
        (
        k184 false)
        (
        if m111 < m113 then
        G_g106 ((List.getD u114 m111 []).headD 0)
        (fun b144 =>
        cond b144
        (
        if m111 < m113 then
        G_g76 (IntKind.wrap .i64 (((List.getD u114 m111 []).tail.tail).headD 0)) (0 : Int) (IntKind.wrap .i64 (p112 - (1 : Int)))
        (fun b148 =>
        k184 b148)
        else
        none)
        (
        if m111 < m113 then
        k184 ((((List.getD u114 m111 []).tail.tail).headD 0) == (0 : Int))
        else
        none))
        else
        none)
        else
        none)
        else
        none))
        else
        none)
        (
        if m111 < m113 then
        G_g106 ((List.getD u114 m111 []).headD 0)
        (fun b152 =>
        cond b152
        (
        if m111 < m113 then
        G_g76 (IntKind.wrap .i64 (((List.getD u114 m111 []).tail).headD 0)) (0 : Int) (IntKind.wrap .i64 (p112 - (1 : Int)))
        (fun b156 =>
        cond (!b156)
        (
        k184 false)
        (
        if m111 < m113 then
        cond ((((List.getD u114 m111 []).tail.tail.tail).headD 0) != (0 : Int))
        (
        k184 false)
        (
        if m111 < m113 then
        cond ((((List.getD u114 m111 []).tail.tail.tail.tail).headD 0) != (0 : Int))
        (
        k184 false)
        (
        if m111 < m113 then
        G_g106 ((List.getD u114 m111 []).headD 0)
        (fun b163 =>
        cond b163
        (
        if m111 < m113 then
        G_g76 (IntKind.wrap .i64 (((List.getD u114 m111 []).tail.tail).headD 0)) (0 : Int) (IntKind.wrap .i64 (p112 - (1 : Int)))
        (fun b167 =>
        k184 b167)
        else
        none)
        (
        if m111 < m113 then
        k184 ((((List.getD u114 m111 []).tail.tail).headD 0) == (0 : Int))
        else
        none))
        else
        none)
        else
        none)
        else
        none))
        else
        none)
        (
        if m111 < m113 then
        cond ((((List.getD u114 m111 []).tail).headD 0) != (0 : Int))
        (
        k184 false)
        (
        if m111 < m113 then
        cond ((((List.getD u114 m111 []).tail.tail).headD 0) != (0 : Int))
        (
        k184 false)
        (
        if m111 < m113 then
        cond (((List.getD u114 m111 []).headD 0) == (1 : Int))
        (
        if m111 < m113 then
        G_g76 (((List.getD u114 m111 []).tail.tail.tail).headD 0) (-1000000000 : Int) (1000000000 : Int)
        (fun b177 =>
        cond b177
        (
        if m111 < m113 then
        G_g76 (((List.getD u114 m111 []).tail.tail.tail.tail).headD 0) (1 : Int) (1000000000 : Int)
        (fun b179 =>
        k184 b179)
        else
        none)
        (
        k184 false))
        else
        none)
        (
        if m111 < m113 then
        cond ((((List.getD u114 m111 []).tail.tail.tail).headD 0) == (0 : Int))
        (
        if m111 < m113 then
        k184 ((((List.getD u114 m111 []).tail.tail.tail.tail).headD 0) == (0 : Int))
        else
        none)
        (
        k184 false)
        else
        none)
        else
        none)
        else
        none)
        else
        none))
        else
        none))
        else
        none)
      else
        none)
  else
    none
def g77 {α : Type} (m : Nat) : S_g77 α :=
  g77b (g105 m) (g76 m) (g106 m)
def g77tp : List TP := [(.vl (.sv (.el 0 0 5 0))), (.vl (.sv (.int .i64)))]
def g77bp : List BP := [(false, [(.seqv (.rc [.i8, .i16, .i16, .i64, .i64]))])]
def g77K {α : Type} (G : S_g77 α) (ls : List Lf) (k : KRe α) : Option α :=
  G (lf ls 0).nat (lf ls 1).int (lf ls 2).nat ((lf ls 3).lst (.rc [.i8, .i16, .i16, .i64, .i64]))
    (fun y0 => k (.vl (.sv (.bool y0))) [[(.seq (.rc [.i8, .i16, .i16, .i64, .i64]) (lf ls 2).nat ((lf ls 3).lst (.rc [.i8, .i16, .i16, .i64, .i64])))]] [])
def g77R {α : Type} (G : S_g77 α) := rowK g77tp g77bp (g77K G)
def g77hd (G_g105 : {α : Type} → S_g105 α) (G_g76 : {α : Type} → S_g76 α) (G_g106 : {α : Type} → S_g106 α)  : Hd where
  call := fun f args Bs k => cond (Nat.beq f 105) (g105R G_g105 args Bs k) (cond (Nat.beq f 76) (g76R G_g76 args Bs k) (cond (Nat.beq f 106) (g106R G_g106 args Bs k) (none)))
  loop := fun id st k => none
  ro := fun f => []
def g77h (m : Nat) : Hd := g77hd (g105 m) (g76 m) (g106 m)
theorem g77Main (G_g105 : {α : Type} → S_g105 α) (G_g76 : {α : Type} → S_g76 α) (G_g106 : {α : Type} → S_g106 α)  {α : Type} (ls : List Lf) (k : KRe α) :
    g77K (g77b G_g105 G_g76 G_g106) ls k = evFun tab (g77hd G_g105 G_g76 G_g106) Go.Proofs.Tryd.f77 (fillT g77tp ls).1 (fillB g77bp (fillT g77tp ls).2).1 k := by kernel_rfl
theorem g77Calls (m : Nat) : (g77h m).CallsOk Go.Proofs.Tryd.prog := (cok_cons (g105Ok m) (cok_cons (g76Ok m) (cok_cons (g106Ok m) cok_nil)))
theorem g77Fn (m : Nat) : FnOk Go.Proofs.Tryd.prog 77 g77tp g77bp (fun {α} => g77K (g77 m (α := α))) :=
  fn_ok (tab := tab) (h := g77h m) (fn := Go.Proofs.Tryd.f77) (F := fun {α} => g77K (g77 m (α := α))) tabOk (g77Calls m) mixed (by kernel_rfl) (by kernel_rfl) (fun c hc => by
    rw [bodyOf_some hc]
    exact loopsOk_of _ (fun p hp => by rw [show loopsOf (bodyOf Go.Proofs.Tryd.f77) = [] by kernel_rfl] at hp; cases hp))
    (fun α ls k => g77Main (g105 m) (g76 m) (g106 m) ls k)
theorem g77Ok (m : Nat) : RowOk Go.Proofs.Tryd.prog 77 (fun {α} => g77R (g77 m (α := α))) := row_of (g77Fn m)
abbrev S_g37 (α : Type) : Type := Nat → Nat → Nat → Nat → Ty0 → (Bool → Option α) → Option α
abbrev S_g37l0 (α : Type) : Type := Nat → Nat → Nat → Nat → Ty0 → (Option α) → (Option α) → Int → Option α
def g37l0b {α : Type} (G_g77 : {α : Type} → S_g77 α)  (m104 : Nat) (m105 : Nat) (m106 : Nat) (m108 : Nat) (a109 : Ty0) (k188 : Option α) (k189 : Option α) (r190 : Int → Option α) (v107 : Int) : Option α :=
  cond (decide (v107 < ((m105 : Nat) : Int)))
   (
    if 0 ≤ v107 ∧ v107 < (m105 : Nat) then
      G_g77 (m104 + v107.toNat) v107 m108 a109
        (fun b185 =>
        cond (!b185)
        (
        k188)
        (
        r190 (IntKind.wrap .i64 (v107 + (1 : Int)))))
    else
      none)
   (
    k189)
def g37l0 {α : Type} (G_g77 : {α : Type} → S_g77 α)  (m104 : Nat) (m105 : Nat) (m106 : Nat) (m108 : Nat) (a109 : Ty0) (k188 : Option α) (k189 : Option α) : Nat → Int → Option α
  | 0 => fun _ => none
  | m + 1 => fun v107 => g37l0b G_g77 m104 m105 m106 m108 a109 k188 k189 (g37l0 G_g77 m104 m105 m106 m108 a109 k188 k189 m) v107
def g37l0M {α : Type} (m : Nat) : S_g37l0 α :=
  fun m104 m105 m106 m108 a109 k188 k189 v107 => g37l0 (g77 m) m104 m105 m106 m108 a109 k188 k189 m v107
def g37l0D : LoopD := { n := 20, low := [0], sl := [0, 3], bl := [0], tp := [(.vl (.sv (.slc 0 0 5))), (.vl (.sv (.int .i64)))], bp := [(false, [(.seqv (.rc [.i8, .i16, .i16, .i64, .i64]))])], xs := [(1, [2]), (2, [])] }
def g37l0K {α : Type} (L : S_g37l0 α) (ls : List Lf) (k : KEx α) : Option α :=
  L (lf ls 0).nat (lf ls 1).nat (lf ls 2).nat (lf ls 4).nat ((lf ls 5).lst (.rc [.i8, .i16, .i16, .i64, .i64]))
    (k .ret (mkSt 20 [2] [(.vl (.sv (.bool false)))] [0] [(false, [(.seq (.rc [.i8, .i16, .i16, .i64, .i64]) (lf ls 4).nat ((lf ls 5).lst (.rc [.i8, .i16, .i16, .i64, .i64])))])]))
    (k .normal (mkSt 20 [] [] [0] [(false, [(.seq (.rc [.i8, .i16, .i16, .i64, .i64]) (lf ls 4).nat ((lf ls 5).lst (.rc [.i8, .i16, .i16, .i64, .i64])))])]))
    (lf ls 3).int
def g37b {α : Type} (G_g76 : {α : Type} → S_g76 α) (G_g77 : {α : Type} → S_g77 α) (L_g37l0 : {α : Type} → S_g37l0 α) (m91 : Nat) (m92 : Nat) (m93 : Nat) (m94 : Nat) (u95 : Ty0) (k191 : Bool → Option α) : Option α :=
  G_g76 ((m92 : Nat) : Int) (1 : Int) (40 : Int)
    (fun b102 =>
      cond (!b102)
       (
        k191 false)
       (
        L_g37l0 m91 m92 m93 m94 u95
        (
        k191 false)
        (
        k191 true)
        (0 : Int)))
def g37 {α : Type} (m : Nat) : S_g37 α :=
  g37b (g76 m) (g77 m) (g37l0M m)
def g37tp : List TP := [(.vl (.sv (.slc 0 0 5)))]
def g37bp : List BP := [(false, [(.seqv (.rc [.i8, .i16, .i16, .i64, .i64]))])]
def g37K {α : Type} (G : S_g37 α) (ls : List Lf) (k : KRe α) : Option α :=
  G (lf ls 0).nat (lf ls 1).nat (lf ls 2).nat (lf ls 3).nat ((lf ls 4).lst (.rc [.i8, .i16, .i16, .i64, .i64]))
    (fun y0 => k (.vl (.sv (.bool y0))) [[(.seq (.rc [.i8, .i16, .i16, .i64, .i64]) (lf ls 3).nat ((lf ls 4).lst (.rc [.i8, .i16, .i16, .i64, .i64])))]] [])
def g37R {α : Type} (G : S_g37 α) := rowK g37tp g37bp (g37K G)
def g37hd (G_g76 : {α : Type} → S_g76 α) (G_g77 : {α : Type} → S_g77 α) (L_g37l0 : {α : Type} → S_g37l0 α) : Hd where
  call := fun f args Bs k => cond (Nat.beq f 76) (g76R G_g76 args Bs k) (cond (Nat.beq f 77) (g77R G_g77 args Bs k) (none))
  loop := fun id st k => cond (Nat.beq id 0) (loopH g37l0D (g37l0K L_g37l0) st k) (none)
  ro := fun f => cond (Nat.beq f 77) [0] ([])
def g37h (m : Nat) : Hd := g37hd (g76 m) (g77 m) (g37l0M m)
theorem g37l0Step (G_g76 : {α : Type} → S_g76 α) (G_g77 : {α : Type} → S_g77 α) (L_g37l0 : {α : Type} → S_g37l0 α) {α : Type} (L : S_g37l0 α) (ls : List Lf) (k : KEx α) :
    g37l0K (fun m104 m105 m106 m108 a109 k188 k189 v107 => g37l0b G_g77 m104 m105 m106 m108 a109 k188 k189 (L m104 m105 m106 m108 a109 k188 k189) v107) ls k = ev tab (g37hd G_g76 G_g77 L_g37l0) (bodyAt Go.Proofs.Tryd.f37 0) (atHead g37l0D ls) (loopK g37l0D 0 (loopH g37l0D (g37l0K L)) k) := by kernel_rfl
theorem g37Main (G_g76 : {α : Type} → S_g76 α) (G_g77 : {α : Type} → S_g77 α) (L_g37l0 : {α : Type} → S_g37l0 α) {α : Type} (ls : List Lf) (k : KRe α) :
    g37K (g37b G_g76 G_g77 L_g37l0) ls k = evFun tab (g37hd G_g76 G_g77 L_g37l0) Go.Proofs.Tryd.f37 (fillT g37tp ls).1 (fillB g37bp (fillT g37tp ls).2).1 k := by kernel_rfl
theorem g37Calls (m : Nat) : (g37h m).CallsOk Go.Proofs.Tryd.prog := (cok_cons (g76Ok m) (cok_cons (g77Ok m) cok_nil))
theorem g37l0Ok (m : Nat) (α : Type) (st : St) (k : KEx α) (r : α) (h : (g37h m).loop 0 st k = some r) :
    LoopS Go.Proofs.Tryd.prog 0 (bodyAt Go.Proofs.Tryd.f37 0) st k r :=
  loop_ok (tab := tab) (h := g37h m) (F := fun n ls k => g37l0K (fun m104 m105 m106 m108 a109 k188 k189 v107 => g37l0 (g77 m) m104 m105 m106 m108 a109 k188 k189 n v107) ls k) tabOk (g37Calls m) mixed (loopsOk_of _ (fun p hp => by rw [show loopsOf (bodyAt Go.Proofs.Tryd.f37 0) = [] by kernel_rfl] at hp; cases hp))
    (fun _ _ => rfl) (fun n ls k => g37l0Step (g76 m) (g77 m) (g37l0M m) (fun m104 m105 m106 m108 a109 k188 k189 => g37l0 (g77 m) m104 m105 m106 m108 a109 k188 k189 n) ls k) (n := m) h
theorem g37Fn (m : Nat) : FnOk Go.Proofs.Tryd.prog 37 g37tp g37bp (fun {α} => g37K (g37 m (α := α))) :=
  fn_ok (tab := tab) (h := g37h m) (fn := Go.Proofs.Tryd.f37) (F := fun {α} => g37K (g37 m (α := α))) tabOk (g37Calls m) mixed (by kernel_rfl) (by kernel_rfl) (fun c hc => by
    rw [bodyOf_some hc]
    exact loopsOk_of _ (fun p hp => by
    rw [show loopsOf (bodyOf Go.Proofs.Tryd.f37) = [(0, bodyAt Go.Proofs.Tryd.f37 0)] by kernel_rfl] at hp
    simp only [List.mem_cons, List.not_mem_nil, or_false] at hp
    rcases hp with rfl
    exact g37l0Ok m))
    (fun α ls k => g37Main (g76 m) (g77 m) (g37l0M m) ls k)
theorem g37Ok (m : Nat) : RowOk Go.Proofs.Tryd.prog 37 (fun {α} => g37R (g37 m (α := α))) := row_of (g37Fn m)
abbrev S_g103 (α : Type) : Type := (Ty1 → Option α) → Option α
def g103b {α : Type}    (k210 : Ty1 → Option α) : Option α :=
  k210 ([(⟨#[]⟩ : ByteArray), (⟨#[114, 97, 116, 105, 111]⟩ : ByteArray), (⟨#[115, 117, 109]⟩ : ByteArray), (⟨#[100, 105, 102, 102]⟩ : ByteArray), (⟨#[112, 114, 111, 100, 117, 99, 116]⟩ : ByteArray), (⟨#[113, 117, 111, 116, 105, 101, 110, 116]⟩ : ByteArray), (⟨#[110, 101, 103]⟩ : ByteArray), (⟨#[97, 98, 115]⟩ : ByteArray), (⟨#[109, 105, 110]⟩ : ByteArray), (⟨#[109, 97, 120]⟩ : ByteArray), (⟨#[114, 111, 111, 116]⟩ : ByteArray), (⟨#[112, 105]⟩ : ByteArray), (⟨#[101, 117, 108, 101, 114]⟩ : ByteArray)])
def g103 {α : Type} (m : Nat) : S_g103 α :=
  g103b
def g103tp : List TP := []
def g103bp : List BP := []
def g103K {α : Type} (G : S_g103 α) (ls : List Lf) (k : KRe α) : Option α :=
  G 
    (fun y3 => k (.vl (.sv (.slc 0 0 1 0 13 13))) [] [[(.seq .str 13 y3)]])
def g103R {α : Type} (G : S_g103 α) := rowK g103tp g103bp (g103K G)
def g103hd   : Hd where
  call := fun f args Bs k => none
  loop := fun id st k => none
  ro := fun f => []
def g103h (m : Nat) : Hd := g103hd
theorem g103Main   {α : Type} (ls : List Lf) (k : KRe α) :
    g103K (g103b) ls k = evFun tab (g103hd) Go.Proofs.Tryd.f103 (fillT g103tp ls).1 (fillB g103bp (fillT g103tp ls).2).1 k := by kernel_rfl
theorem g103Calls (m : Nat) : (g103h m).CallsOk Go.Proofs.Tryd.prog := cok_nil
theorem g103Fn (m : Nat) : FnOk Go.Proofs.Tryd.prog 103 g103tp g103bp (fun {α} => g103K (g103 m (α := α))) :=
  fn_ok (tab := tab) (h := g103h m) (fn := Go.Proofs.Tryd.f103) (F := fun {α} => g103K (g103 m (α := α))) tabOk (g103Calls m) mixed (by kernel_rfl) (by kernel_rfl) (fun c hc => by
    rw [bodyOf_some hc]
    exact loopsOk_of _ (fun p hp => by rw [show loopsOf (bodyOf Go.Proofs.Tryd.f103) = [] by kernel_rfl] at hp; cases hp))
    (fun α ls k => g103Main ls k)
theorem g103Ok (m : Nat) : RowOk Go.Proofs.Tryd.prog 103 (fun {α} => g103R (g103 m (α := α))) := row_of (g103Fn m)
abbrev S_g86 (α : Type) : Type := Int → (ByteArray → Option α) → Option α
def g86tp : List TP := [(.vl (.sv (.int .i64)))]
def g86bp : List BP := []
def g86K {α : Type} (G : S_g86 α) (ls : List Lf) (k : KRe α) : Option α :=
  G (lf ls 0).int
    (fun y0 => k (.vl (.sv (.str y0))) [] [])
def g86R {α : Type} (G : S_g86 α) := rowK g86tp g86bp (g86K G)
def g86b {α : Type} (G_g86 : {α : Type} → S_g86 α)  (p229 : Int) (k242 : ByteArray → Option α) : Option α :=
  cond (decide (p229 < (10 : Int)))
   (
    k242 (bytesS (List.take 1 (List.drop 0 [(IntKind.wrap .u8 (IntKind.wrap .i64 ((48 : Int) + (Int.tmod p229 (10 : Int)))))]))))
   (
    G_g86 (IntKind.wrap .i64 (Int.tdiv p229 (10 : Int)))
      (fun s236 =>
        let s240 : ByteArray := bytesS (List.take 1 (List.drop 0 [(IntKind.wrap .u8 (IntKind.wrap .i64 ((48 : Int) + (Int.tmod p229 (10 : Int)))))]))
        if s236.size + s240.size ≤ 9223372036854775807 then
        k242 (s236 ++ s240)
        else
        none))
noncomputable def g86 (m : Nat) : {α : Type} → S_g86 α :=
  Nat.rec (motive := fun _ => {α : Type} → S_g86 α) (fun {α} => fun _ _ => none) (fun m ih {α} => g86b ih) m
def g86hd (G_g86 : {α : Type} → S_g86 α)  : Hd where
  call := fun f args Bs k => cond (Nat.beq f 86) (g86R G_g86 args Bs k) (none)
  loop := fun id st k => none
  ro := fun f => []
def g86h (A_g86 : {α : Type} → S_g86 α) (m : Nat) : Hd := g86hd A_g86
theorem g86Main (G_g86 : {α : Type} → S_g86 α)  {α : Type} (ls : List Lf) (k : KRe α) :
    g86K (g86b G_g86) ls k = evFun tab (g86hd G_g86) Go.Proofs.Tryd.f86 (fillT g86tp ls).1 (fillB g86bp (fillT g86tp ls).2).1 k := by kernel_rfl
theorem g86Calls (A_g86 : {α : Type} → S_g86 α) (hA_g86 : RowOk Go.Proofs.Tryd.prog 86 (fun {α} => rowK g86tp g86bp (g86K (A_g86 (α := α))))) (m : Nat) : (g86h A_g86 m).CallsOk Go.Proofs.Tryd.prog := (cok_cons hA_g86 cok_nil)
theorem g86FnS (m : Nat) (hA : RowOk Go.Proofs.Tryd.prog 86 (fun {α} => g86R (g86 m (α := α)))) : FnOk Go.Proofs.Tryd.prog 86 g86tp g86bp (fun {α} => g86K (g86 (m + 1) (α := α))) :=
  fn_ok (tab := tab) (h := g86h (g86 m) m) (fn := Go.Proofs.Tryd.f86) (F := fun {α} => g86K (g86 (m + 1) (α := α))) tabOk (g86Calls (g86 m) hA m) mixed (by kernel_rfl) (by kernel_rfl) (fun c hc => by
    rw [bodyOf_some hc]
    exact loopsOk_of _ (fun p hp => by rw [show loopsOf (bodyOf Go.Proofs.Tryd.f86) = [] by kernel_rfl] at hp; cases hp))
    (fun α ls k => g86Main (g86 m) ls k)
theorem g86Fn : ∀ m : Nat, FnOk Go.Proofs.Tryd.prog 86 g86tp g86bp (fun {α} => g86K (g86 m (α := α)))
  | 0 => fun α ls k r h => nomatch (show (none : Option α) = some r from h)
  | m + 1 => g86FnS m (row_of (g86Fn m))
theorem g86Ok (m : Nat) : RowOk Go.Proofs.Tryd.prog 86 (fun {α} => g86R (g86 m (α := α))) := row_of (g86Fn m)
abbrev S_g112 (α : Type) : Type := Int → (ByteArray → Option α) → Option α
def g112b {α : Type} (G_g86 : {α : Type} → S_g86 α)  (p217 : Int) (k246 : ByteArray → Option α) : Option α :=
  cond (decide (p217 < (0 : Int)))
   (
    G_g86 (IntKind.wrap .i64 (0 - p217))
      (fun s243 =>
        if (⟨#[45]⟩ : ByteArray).size + s243.size ≤ 9223372036854775807 then
        k246 ((⟨#[45]⟩ : ByteArray) ++ s243)
        else
        none))
   (
    G_g86 p217
      (fun s245 =>
        k246 s245))
noncomputable def g112 {α : Type} (m : Nat) : S_g112 α :=
  g112b (g86 m)
def g112tp : List TP := [(.vl (.sv (.int .i64)))]
def g112bp : List BP := []
def g112K {α : Type} (G : S_g112 α) (ls : List Lf) (k : KRe α) : Option α :=
  G (lf ls 0).int
    (fun y0 => k (.vl (.sv (.str y0))) [] [])
def g112R {α : Type} (G : S_g112 α) := rowK g112tp g112bp (g112K G)
def g112hd (G_g86 : {α : Type} → S_g86 α)  : Hd where
  call := fun f args Bs k => cond (Nat.beq f 86) (g86R G_g86 args Bs k) (none)
  loop := fun id st k => none
  ro := fun f => []
noncomputable def g112h (m : Nat) : Hd := g112hd (g86 m)
theorem g112Main (G_g86 : {α : Type} → S_g86 α)  {α : Type} (ls : List Lf) (k : KRe α) :
    g112K (g112b G_g86) ls k = evFun tab (g112hd G_g86) Go.Proofs.Tryd.f112 (fillT g112tp ls).1 (fillB g112bp (fillT g112tp ls).2).1 k := by kernel_rfl
theorem g112Calls (m : Nat) : (g112h m).CallsOk Go.Proofs.Tryd.prog := (cok_cons (g86Ok m) cok_nil)
theorem g112Fn (m : Nat) : FnOk Go.Proofs.Tryd.prog 112 g112tp g112bp (fun {α} => g112K (g112 m (α := α))) :=
  fn_ok (tab := tab) (h := g112h m) (fn := Go.Proofs.Tryd.f112) (F := fun {α} => g112K (g112 m (α := α))) tabOk (g112Calls m) mixed (by kernel_rfl) (by kernel_rfl) (fun c hc => by
    rw [bodyOf_some hc]
    exact loopsOk_of _ (fun p hp => by rw [show loopsOf (bodyOf Go.Proofs.Tryd.f112) = [] by kernel_rfl] at hp; cases hp))
    (fun α ls k => g112Main (g86 m) ls k)
theorem g112Ok (m : Nat) : RowOk Go.Proofs.Tryd.prog 112 (fun {α} => g112R (g112 m (α := α))) := row_of (g112Fn m)
abbrev S_g78 (α : Type) : Type := Nat → Nat → Ty0 → (ByteArray → Option α) → Option α
def g78b {α : Type} (G_g103 : {α : Type} → S_g103 α) (G_g112 : {α : Type} → S_g112 α) (G_g86 : {α : Type} → S_g86 α) (G_g105 : {α : Type} → S_g105 α) (G_g106 : {α : Type} → S_g106 α)  (m207 : Nat) (m208 : Nat) (u209 : Ty0) (k273 : ByteArray → Option α) : Option α :=
  G_g103
    (fun l211 =>
      if m207 < m208 then
        let x212 : Int := (List.getD u209 m207 []).headD 0
        if 0 ≤ x212 ∧ x212 < (13 : Nat) then
        if (0 + x212.toNat) < 13 then
        let s213 : ByteArray := List.getD l211 (0 + x212.toNat) ⟨#[]⟩
        if m207 < m208 then
        cond (((List.getD u209 m207 []).headD 0) == (1 : Int))
        (
        if m207 < m208 then
        G_g112 (((List.getD u209 m207 []).tail.tail.tail).headD 0)
        (fun s247 =>
        if (⟨#[32]⟩ : ByteArray).size + s247.size ≤ 9223372036854775807 then
        let s248 : ByteArray := (⟨#[32]⟩ : ByteArray) ++ s247
        if s248.size + (⟨#[32]⟩ : ByteArray).size ≤ 9223372036854775807 then
        let s249 : ByteArray := s248 ++ (⟨#[32]⟩ : ByteArray)
        if m207 < m208 then
        G_g86 (((List.getD u209 m207 []).tail.tail.tail.tail).headD 0)
        (fun s251 =>
        if s249.size + s251.size ≤ 9223372036854775807 then
        let s252 : ByteArray := s249 ++ s251
        if s213.size + s252.size ≤ 9223372036854775807 then
        k273 (s213 ++ s252)
        else
        none
        else
        none)
        else
        none
        else
        none
        else
        none)
        else
        none)
        (
        if m207 < m208 then
        G_g105 ((List.getD u209 m207 []).headD 0)
        (fun b255 =>
        cond b255
        (
        if m207 < m208 then
        G_g86 (IntKind.wrap .i64 (((List.getD u209 m207 []).tail).headD 0))
        (fun s258 =>
        if (⟨#[32]⟩ : ByteArray).size + s258.size ≤ 9223372036854775807 then
        let s259 : ByteArray := (⟨#[32]⟩ : ByteArray) ++ s258
        if s213.size + s259.size ≤ 9223372036854775807 then
        k273 (s213 ++ s259)
        else
        none
        else
        none)
        else
        none)
        (
        if m207 < m208 then
        G_g106 ((List.getD u209 m207 []).headD 0)
        (fun b262 =>
        cond b262
        (
        if m207 < m208 then
        G_g86 (IntKind.wrap .i64 (((List.getD u209 m207 []).tail).headD 0))
        (fun s265 =>
        if (⟨#[32]⟩ : ByteArray).size + s265.size ≤ 9223372036854775807 then
        let s266 : ByteArray := (⟨#[32]⟩ : ByteArray) ++ s265
        if s266.size + (⟨#[32]⟩ : ByteArray).size ≤ 9223372036854775807 then
        let s267 : ByteArray := s266 ++ (⟨#[32]⟩ : ByteArray)
        if m207 < m208 then
        G_g86 (IntKind.wrap .i64 (((List.getD u209 m207 []).tail.tail).headD 0))
        (fun s270 =>
        if s267.size + s270.size ≤ 9223372036854775807 then
        let s271 : ByteArray := s267 ++ s270
        if s213.size + s271.size ≤ 9223372036854775807 then
        k273 (s213 ++ s271)
        else
        none
        else
        none)
        else
        none
        else
        none
        else
        none)
        else
        none)
        (
        k273 s213))
        else
        none))
        else
        none)
        else
        none
        else
        none
        else
        none
      else
        none)
noncomputable def g78 {α : Type} (m : Nat) : S_g78 α :=
  g78b (g103 m) (g112 m) (g86 m) (g105 m) (g106 m)
def g78tp : List TP := [(.vl (.sv (.el 0 0 5 0)))]
def g78bp : List BP := [(false, [(.seqv (.rc [.i8, .i16, .i16, .i64, .i64]))])]
def g78K {α : Type} (G : S_g78 α) (ls : List Lf) (k : KRe α) : Option α :=
  G (lf ls 0).nat (lf ls 1).nat ((lf ls 2).lst (.rc [.i8, .i16, .i16, .i64, .i64]))
    (fun y0 => k (.vl (.sv (.str y0))) [[(.seq (.rc [.i8, .i16, .i16, .i64, .i64]) (lf ls 1).nat ((lf ls 2).lst (.rc [.i8, .i16, .i16, .i64, .i64])))]] [])
def g78R {α : Type} (G : S_g78 α) := rowK g78tp g78bp (g78K G)
def g78hd (G_g103 : {α : Type} → S_g103 α) (G_g112 : {α : Type} → S_g112 α) (G_g86 : {α : Type} → S_g86 α) (G_g105 : {α : Type} → S_g105 α) (G_g106 : {α : Type} → S_g106 α)  : Hd where
  call := fun f args Bs k => cond (Nat.beq f 103) (g103R G_g103 args Bs k) (cond (Nat.beq f 112) (g112R G_g112 args Bs k) (cond (Nat.beq f 86) (g86R G_g86 args Bs k) (cond (Nat.beq f 105) (g105R G_g105 args Bs k) (cond (Nat.beq f 106) (g106R G_g106 args Bs k) (none)))))
  loop := fun id st k => none
  ro := fun f => []
noncomputable def g78h (m : Nat) : Hd := g78hd (g103 m) (g112 m) (g86 m) (g105 m) (g106 m)
theorem g78Main (G_g103 : {α : Type} → S_g103 α) (G_g112 : {α : Type} → S_g112 α) (G_g86 : {α : Type} → S_g86 α) (G_g105 : {α : Type} → S_g105 α) (G_g106 : {α : Type} → S_g106 α)  {α : Type} (ls : List Lf) (k : KRe α) :
    g78K (g78b G_g103 G_g112 G_g86 G_g105 G_g106) ls k = evFun tab (g78hd G_g103 G_g112 G_g86 G_g105 G_g106) Go.Proofs.Tryd.f78 (fillT g78tp ls).1 (fillB g78bp (fillT g78tp ls).2).1 k := by kernel_rfl
theorem g78Calls (m : Nat) : (g78h m).CallsOk Go.Proofs.Tryd.prog := (cok_cons (g103Ok m) (cok_cons (g112Ok m) (cok_cons (g86Ok m) (cok_cons (g105Ok m) (cok_cons (g106Ok m) cok_nil)))))
theorem g78Fn (m : Nat) : FnOk Go.Proofs.Tryd.prog 78 g78tp g78bp (fun {α} => g78K (g78 m (α := α))) :=
  fn_ok (tab := tab) (h := g78h m) (fn := Go.Proofs.Tryd.f78) (F := fun {α} => g78K (g78 m (α := α))) tabOk (g78Calls m) mixed (by kernel_rfl) (by kernel_rfl) (fun c hc => by
    rw [bodyOf_some hc]
    exact loopsOk_of _ (fun p hp => by rw [show loopsOf (bodyOf Go.Proofs.Tryd.f78) = [] by kernel_rfl] at hp; cases hp))
    (fun α ls k => g78Main (g103 m) (g112 m) (g86 m) (g105 m) (g106 m) ls k)
theorem g78Ok (m : Nat) : RowOk Go.Proofs.Tryd.prog 78 (fun {α} => g78R (g78 m (α := α))) := row_of (g78Fn m)
abbrev S_g38 (α : Type) : Type := Nat → Nat → Nat → Nat → Ty0 → (ByteArray → Option α) → Option α
abbrev S_g38l0 (α : Type) : Type := Nat → Nat → Nat → Nat → Ty0 → (ByteArray → Option α) → ByteArray → Int → Option α
def g38l0b {α : Type} (G_g78 : {α : Type} → S_g78 α)  (m199 : Nat) (m200 : Nat) (m201 : Nat) (m204 : Nat) (a205 : Ty0) (k278 : ByteArray → Option α) (r279 : ByteArray → Int → Option α) (z202 : ByteArray) (v203 : Int) : Option α :=
  cond (decide (v203 < ((m200 : Nat) : Int)))
   (
    if 0 ≤ v203 ∧ v203 < (m200 : Nat) then
      G_g78 (m199 + v203.toNat) m204 a205
        (fun s274 =>
        if s274.size + (⟨#[10]⟩ : ByteArray).size ≤ 9223372036854775807 then
        let s275 : ByteArray := s274 ++ (⟨#[10]⟩ : ByteArray)
        if z202.size + s275.size ≤ 9223372036854775807 then
        r279 (z202 ++ s275) (IntKind.wrap .i64 (v203 + (1 : Int)))
        else
        none
        else
        none)
    else
      none)
   (
    k278 z202)
def g38l0 {α : Type} (G_g78 : {α : Type} → S_g78 α)  (m199 : Nat) (m200 : Nat) (m201 : Nat) (m204 : Nat) (a205 : Ty0) (k278 : ByteArray → Option α) : Nat → ByteArray → Int → Option α
  | 0 => fun _ _ => none
  | m + 1 => fun z202 v203 => g38l0b G_g78 m199 m200 m201 m204 a205 k278 (g38l0 G_g78 m199 m200 m201 m204 a205 k278 m) z202 v203
noncomputable def g38l0M {α : Type} (m : Nat) : S_g38l0 α :=
  fun m199 m200 m201 m204 a205 k278 z202 v203 => g38l0 (g78 m) m199 m200 m201 m204 a205 k278 m z202 v203
def g38l0D : LoopD := { n := 19, low := [0], sl := [0, 3, 4], bl := [0], tp := [(.vl (.sv (.slc 0 0 5))), (.vl (.sv .str)), (.vl (.sv (.int .i64)))], bp := [(false, [(.seqv (.rc [.i8, .i16, .i16, .i64, .i64]))])], xs := [(2, [3])] }
def g38l0K {α : Type} (L : S_g38l0 α) (ls : List Lf) (k : KEx α) : Option α :=
  L (lf ls 0).nat (lf ls 1).nat (lf ls 2).nat (lf ls 5).nat ((lf ls 6).lst (.rc [.i8, .i16, .i16, .i64, .i64]))
    (fun y0 => k .normal (mkSt 19 [3] [(.vl (.sv (.str y0)))] [0] [(false, [(.seq (.rc [.i8, .i16, .i16, .i64, .i64]) (lf ls 5).nat ((lf ls 6).lst (.rc [.i8, .i16, .i16, .i64, .i64])))])]))
    (lf ls 3).str (lf ls 4).int
def g38b {α : Type} (G_g78 : {α : Type} → S_g78 α) (L_g38l0 : {α : Type} → S_g38l0 α) (m194 : Nat) (m195 : Nat) (m196 : Nat) (m197 : Nat) (u198 : Ty0) (k281 : ByteArray → Option α) : Option α :=
  L_g38l0 m194 m195 m196 m197 u198
    (fun s280 =>
      k281 s280)
    (⟨#[]⟩ : ByteArray) (0 : Int)
noncomputable def g38 {α : Type} (m : Nat) : S_g38 α :=
  g38b (g78 m) (g38l0M m)
def g38tp : List TP := [(.vl (.sv (.slc 0 0 5)))]
def g38bp : List BP := [(false, [(.seqv (.rc [.i8, .i16, .i16, .i64, .i64]))])]
def g38K {α : Type} (G : S_g38 α) (ls : List Lf) (k : KRe α) : Option α :=
  G (lf ls 0).nat (lf ls 1).nat (lf ls 2).nat (lf ls 3).nat ((lf ls 4).lst (.rc [.i8, .i16, .i16, .i64, .i64]))
    (fun y0 => k (.vl (.sv (.str y0))) [[(.seq (.rc [.i8, .i16, .i16, .i64, .i64]) (lf ls 3).nat ((lf ls 4).lst (.rc [.i8, .i16, .i16, .i64, .i64])))]] [])
def g38R {α : Type} (G : S_g38 α) := rowK g38tp g38bp (g38K G)
def g38hd (G_g78 : {α : Type} → S_g78 α) (L_g38l0 : {α : Type} → S_g38l0 α) : Hd where
  call := fun f args Bs k => cond (Nat.beq f 78) (g78R G_g78 args Bs k) (none)
  loop := fun id st k => cond (Nat.beq id 0) (loopH g38l0D (g38l0K L_g38l0) st k) (none)
  ro := fun f => cond (Nat.beq f 78) [0] ([])
noncomputable def g38h (m : Nat) : Hd := g38hd (g78 m) (g38l0M m)
theorem g38l0Step (G_g78 : {α : Type} → S_g78 α) (L_g38l0 : {α : Type} → S_g38l0 α) {α : Type} (L : S_g38l0 α) (ls : List Lf) (k : KEx α) :
    g38l0K (fun m199 m200 m201 m204 a205 k278 z202 v203 => g38l0b G_g78 m199 m200 m201 m204 a205 k278 (L m199 m200 m201 m204 a205 k278) z202 v203) ls k = ev tab (g38hd G_g78 L_g38l0) (bodyAt Go.Proofs.Tryd.f38 0) (atHead g38l0D ls) (loopK g38l0D 0 (loopH g38l0D (g38l0K L)) k) := by kernel_rfl
theorem g38Main (G_g78 : {α : Type} → S_g78 α) (L_g38l0 : {α : Type} → S_g38l0 α) {α : Type} (ls : List Lf) (k : KRe α) :
    g38K (g38b G_g78 L_g38l0) ls k = evFun tab (g38hd G_g78 L_g38l0) Go.Proofs.Tryd.f38 (fillT g38tp ls).1 (fillB g38bp (fillT g38tp ls).2).1 k := by kernel_rfl
theorem g38Calls (m : Nat) : (g38h m).CallsOk Go.Proofs.Tryd.prog := (cok_cons (g78Ok m) cok_nil)
theorem g38l0Ok (m : Nat) (α : Type) (st : St) (k : KEx α) (r : α) (h : (g38h m).loop 0 st k = some r) :
    LoopS Go.Proofs.Tryd.prog 0 (bodyAt Go.Proofs.Tryd.f38 0) st k r :=
  loop_ok (tab := tab) (h := g38h m) (F := fun n ls k => g38l0K (fun m199 m200 m201 m204 a205 k278 z202 v203 => g38l0 (g78 m) m199 m200 m201 m204 a205 k278 n z202 v203) ls k) tabOk (g38Calls m) mixed (loopsOk_of _ (fun p hp => by rw [show loopsOf (bodyAt Go.Proofs.Tryd.f38 0) = [] by kernel_rfl] at hp; cases hp))
    (fun _ _ => rfl) (fun n ls k => g38l0Step (g78 m) (g38l0M m) (fun m199 m200 m201 m204 a205 k278 => g38l0 (g78 m) m199 m200 m201 m204 a205 k278 n) ls k) (n := m) h
theorem g38Fn (m : Nat) : FnOk Go.Proofs.Tryd.prog 38 g38tp g38bp (fun {α} => g38K (g38 m (α := α))) :=
  fn_ok (tab := tab) (h := g38h m) (fn := Go.Proofs.Tryd.f38) (F := fun {α} => g38K (g38 m (α := α))) tabOk (g38Calls m) mixed (by kernel_rfl) (by kernel_rfl) (fun c hc => by
    rw [bodyOf_some hc]
    exact loopsOk_of _ (fun p hp => by
    rw [show loopsOf (bodyOf Go.Proofs.Tryd.f38) = [(0, bodyAt Go.Proofs.Tryd.f38 0)] by kernel_rfl] at hp
    simp only [List.mem_cons, List.not_mem_nil, or_false] at hp
    rcases hp with rfl
    exact g38l0Ok m))
    (fun α ls k => g38Main (g78 m) (g38l0M m) ls k)
theorem g38Ok (m : Nat) : RowOk Go.Proofs.Tryd.prog 38 (fun {α} => g38R (g38 m (α := α))) := row_of (g38Fn m)
abbrev S_g8 (α : Type) : Type := Nat → Nat → Nat → Nat → Ty0 → (ByteArray → Option α) → Option α
def g8b {α : Type} (G_g37 : {α : Type} → S_g37 α) (G_g38 : {α : Type} → S_g38 α)  (m86 : Nat) (m87 : Nat) (m88 : Nat) (m89 : Nat) (u90 : Ty0) (k283 : ByteArray → Option α) : Option α :=
  G_g37 m86 m87 m88 m89 u90
    (fun b192 =>
      cond (!b192)
       (
        k283 (⟨#[]⟩ : ByteArray))
       (
        G_g38 m86 m87 m88 m89 u90
        (fun s282 =>
        k283 s282)))
noncomputable def g8 {α : Type} (m : Nat) : S_g8 α :=
  g8b (g37 m) (g38 m)
def g8tp : List TP := [(.vl (.sv (.slc 0 0 5)))]
def g8bp : List BP := [(false, [(.seqv (.rc [.i8, .i16, .i16, .i64, .i64]))])]
def g8K {α : Type} (G : S_g8 α) (ls : List Lf) (k : KRe α) : Option α :=
  G (lf ls 0).nat (lf ls 1).nat (lf ls 2).nat (lf ls 3).nat ((lf ls 4).lst (.rc [.i8, .i16, .i16, .i64, .i64]))
    (fun y0 => k (.vl (.sv (.str y0))) [[(.seq (.rc [.i8, .i16, .i16, .i64, .i64]) (lf ls 3).nat ((lf ls 4).lst (.rc [.i8, .i16, .i16, .i64, .i64])))]] [])
def g8R {α : Type} (G : S_g8 α) := rowK g8tp g8bp (g8K G)
def g8hd (G_g37 : {α : Type} → S_g37 α) (G_g38 : {α : Type} → S_g38 α)  : Hd where
  call := fun f args Bs k => cond (Nat.beq f 37) (g37R G_g37 args Bs k) (cond (Nat.beq f 38) (g38R G_g38 args Bs k) (none))
  loop := fun id st k => none
  ro := fun f => cond (Nat.beq f 37) [0] (cond (Nat.beq f 38) [0] ([]))
noncomputable def g8h (m : Nat) : Hd := g8hd (g37 m) (g38 m)
theorem g8Main (G_g37 : {α : Type} → S_g37 α) (G_g38 : {α : Type} → S_g38 α)  {α : Type} (ls : List Lf) (k : KRe α) :
    g8K (g8b G_g37 G_g38) ls k = evFun tab (g8hd G_g37 G_g38) Go.Proofs.Tryd.f8 (fillT g8tp ls).1 (fillB g8bp (fillT g8tp ls).2).1 k := by kernel_rfl
theorem g8Calls (m : Nat) : (g8h m).CallsOk Go.Proofs.Tryd.prog := (cok_cons (g37Ok m) (cok_cons (g38Ok m) cok_nil))
theorem g8Fn (m : Nat) : FnOk Go.Proofs.Tryd.prog 8 g8tp g8bp (fun {α} => g8K (g8 m (α := α))) :=
  fn_ok (tab := tab) (h := g8h m) (fn := Go.Proofs.Tryd.f8) (F := fun {α} => g8K (g8 m (α := α))) tabOk (g8Calls m) mixed (by kernel_rfl) (by kernel_rfl) (fun c hc => by
    rw [bodyOf_some hc]
    exact loopsOk_of _ (fun p hp => by rw [show loopsOf (bodyOf Go.Proofs.Tryd.f8) = [] by kernel_rfl] at hp; cases hp))
    (fun α ls k => g8Main (g37 m) (g38 m) ls k)
theorem g8Ok (m : Nat) : RowOk Go.Proofs.Tryd.prog 8 (fun {α} => g8R (g8 m (α := α))) := row_of (g8Fn m)
abbrev S_g74 (α : Type) : Type := Int → (Bool → Bool → Bool → Option α) → Option α
def g74b {α : Type}   (p306 : Int) (k317 : Bool → Bool → Bool → Option α) : Option α :=
  cond (p306 == (1 : Int))
   (
    k317 false false true)
   (
    cond (p306 == (2 : Int))
     (
      k317 true true false)
     (
      cond (p306 == (3 : Int))
       (
        k317 true true false)
       (
        cond (p306 == (4 : Int))
        (
        k317 true true false)
        (
        cond (p306 == (5 : Int))
        (
        k317 true true false)
        (
        cond (p306 == (8 : Int))
        (
        k317 true true false)
        (
        cond (p306 == (9 : Int))
        (
        k317 true true false)
        (
        cond (p306 == (6 : Int))
        (
        k317 true false false)
        (
        cond (p306 == (7 : Int))
        (
        k317 true false false)
        (
        cond (p306 == (10 : Int))
        (
        k317 true false false)
        (
        k317 false false false))))))))))
def g74 {α : Type} (m : Nat) : S_g74 α :=
  g74b
def g74tp : List TP := [(.vl (.sv (.int .i8)))]
def g74bp : List BP := []
def g74K {α : Type} (G : S_g74 α) (ls : List Lf) (k : KRe α) : Option α :=
  G (lf ls 0).int
    (fun y0 y1 y2 => k (.tup [(.sv (.bool y0)), (.sv (.bool y1)), (.sv (.bool y2))]) [] [])
def g74R {α : Type} (G : S_g74 α) := rowK g74tp g74bp (g74K G)
def g74hd   : Hd where
  call := fun f args Bs k => none
  loop := fun id st k => none
  ro := fun f => []
def g74h (m : Nat) : Hd := g74hd
theorem g74Main   {α : Type} (ls : List Lf) (k : KRe α) :
    g74K (g74b) ls k = evFun tab (g74hd) Go.Proofs.Tryd.f74 (fillT g74tp ls).1 (fillB g74bp (fillT g74tp ls).2).1 k := by kernel_rfl
theorem g74Calls (m : Nat) : (g74h m).CallsOk Go.Proofs.Tryd.prog := cok_nil
theorem g74Fn (m : Nat) : FnOk Go.Proofs.Tryd.prog 74 g74tp g74bp (fun {α} => g74K (g74 m (α := α))) :=
  fn_ok (tab := tab) (h := g74h m) (fn := Go.Proofs.Tryd.f74) (F := fun {α} => g74K (g74 m (α := α))) tabOk (g74Calls m) mixed (by kernel_rfl) (by kernel_rfl) (fun c hc => by
    rw [bodyOf_some hc]
    exact loopsOk_of _ (fun p hp => by rw [show loopsOf (bodyOf Go.Proofs.Tryd.f74) = [] by kernel_rfl] at hp; cases hp))
    (fun α ls k => g74Main ls k)
theorem g74Ok (m : Nat) : RowOk Go.Proofs.Tryd.prog 74 (fun {α} => g74R (g74 m (α := α))) := row_of (g74Fn m)
abbrev S_g111 (α : Type) : Type := Int → Int → Int → (Bool → Option α) → Option α
def g111b {α : Type}   (p327 : Int) (p328 : Int) (p329 : Int) (k332 : Bool → Option α) : Option α :=
  cond (decide (p327 ≥ p328))
   (
    k332 (decide (p327 ≤ p329)))
   (
    k332 false)
def g111 {α : Type} (m : Nat) : S_g111 α :=
  g111b
def g111tp : List TP := [(.vl (.sv (.int .i64))), (.vl (.sv (.int .i64))), (.vl (.sv (.int .i64)))]
def g111bp : List BP := []
def g111K {α : Type} (G : S_g111 α) (ls : List Lf) (k : KRe α) : Option α :=
  G (lf ls 0).int (lf ls 1).int (lf ls 2).int
    (fun y0 => k (.vl (.sv (.bool y0))) [] [])
def g111R {α : Type} (G : S_g111 α) := rowK g111tp g111bp (g111K G)
def g111hd   : Hd where
  call := fun f args Bs k => none
  loop := fun id st k => none
  ro := fun f => []
def g111h (m : Nat) : Hd := g111hd
theorem g111Main   {α : Type} (ls : List Lf) (k : KRe α) :
    g111K (g111b) ls k = evFun tab (g111hd) Go.Proofs.Tryd.f111 (fillT g111tp ls).1 (fillB g111bp (fillT g111tp ls).2).1 k := by kernel_rfl
theorem g111Calls (m : Nat) : (g111h m).CallsOk Go.Proofs.Tryd.prog := cok_nil
theorem g111Fn (m : Nat) : FnOk Go.Proofs.Tryd.prog 111 g111tp g111bp (fun {α} => g111K (g111 m (α := α))) :=
  fn_ok (tab := tab) (h := g111h m) (fn := Go.Proofs.Tryd.f111) (F := fun {α} => g111K (g111 m (α := α))) tabOk (g111Calls m) mixed (by kernel_rfl) (by kernel_rfl) (fun c hc => by
    rw [bodyOf_some hc]
    exact loopsOk_of _ (fun p hp => by rw [show loopsOf (bodyOf Go.Proofs.Tryd.f111) = [] by kernel_rfl] at hp; cases hp))
    (fun α ls k => g111Main ls k)
theorem g111Ok (m : Nat) : RowOk Go.Proofs.Tryd.prog 111 (fun {α} => g111R (g111 m (α := α))) := row_of (g111Fn m)
abbrev S_g79 (α : Type) : Type := Int → Int → Int → (Bool → Option α) → Option α
def g79b {α : Type} (G_g111 : {α : Type} → S_g111 α)  (p323 : Int) (p324 : Int) (p325 : Int) (k337 : Bool → Option α) : Option α :=
  cond (p323 == (1 : Int))
   (
    G_g111 p324 (-1000000000 : Int) (1000000000 : Int)
      (fun b333 =>
        cond b333
        (
        G_g111 p325 (1 : Int) (1000000000 : Int)
        (fun b334 =>
        k337 b334))
        (
        k337 false)))
   (
    cond (p324 == (0 : Int))
     (
      k337 (p325 == (0 : Int)))
     (
      k337 false))
def g79 {α : Type} (m : Nat) : S_g79 α :=
  g79b (g111 m)
def g79tp : List TP := [(.vl (.sv (.int .i8))), (.vl (.sv (.int .i64))), (.vl (.sv (.int .i64)))]
def g79bp : List BP := []
def g79K {α : Type} (G : S_g79 α) (ls : List Lf) (k : KRe α) : Option α :=
  G (lf ls 0).int (lf ls 1).int (lf ls 2).int
    (fun y0 => k (.vl (.sv (.bool y0))) [] [])
def g79R {α : Type} (G : S_g79 α) := rowK g79tp g79bp (g79K G)
def g79hd (G_g111 : {α : Type} → S_g111 α)  : Hd where
  call := fun f args Bs k => cond (Nat.beq f 111) (g111R G_g111 args Bs k) (none)
  loop := fun id st k => none
  ro := fun f => []
def g79h (m : Nat) : Hd := g79hd (g111 m)
theorem g79Main (G_g111 : {α : Type} → S_g111 α)  {α : Type} (ls : List Lf) (k : KRe α) :
    g79K (g79b G_g111) ls k = evFun tab (g79hd G_g111) Go.Proofs.Tryd.f79 (fillT g79tp ls).1 (fillB g79bp (fillT g79tp ls).2).1 k := by kernel_rfl
theorem g79Calls (m : Nat) : (g79h m).CallsOk Go.Proofs.Tryd.prog := (cok_cons (g111Ok m) cok_nil)
theorem g79Fn (m : Nat) : FnOk Go.Proofs.Tryd.prog 79 g79tp g79bp (fun {α} => g79K (g79 m (α := α))) :=
  fn_ok (tab := tab) (h := g79h m) (fn := Go.Proofs.Tryd.f79) (F := fun {α} => g79K (g79 m (α := α))) tabOk (g79Calls m) mixed (by kernel_rfl) (by kernel_rfl) (fun c hc => by
    rw [bodyOf_some hc]
    exact loopsOk_of _ (fun p hp => by rw [show loopsOf (bodyOf Go.Proofs.Tryd.f79) = [] by kernel_rfl] at hp; cases hp))
    (fun α ls k => g79Main (g111 m) ls k)
theorem g79Ok (m : Nat) : RowOk Go.Proofs.Tryd.prog 79 (fun {α} => g79R (g79 m (α := α))) := row_of (g79Fn m)
abbrev S_g80 (α : Type) : Type := Int → Int → Bool → (Bool → Option α) → Option α
def g80b {α : Type}   (p340 : Int) (p341 : Int) (q342 : Bool) (k348 : Bool → Option α) : Option α :=
  cond (!q342)
   (
    k348 (p340 == (0 : Int)))
   (
    cond (decide (p340 ≥ (0 : Int)))
     (
      k348 (decide ((IntKind.wrap .i64 p340) < p341)))
     (
      k348 false))
def g80 {α : Type} (m : Nat) : S_g80 α :=
  g80b
def g80tp : List TP := [(.vl (.sv (.int .i16))), (.vl (.sv (.int .i64))), (.vl (.sv .bool))]
def g80bp : List BP := []
def g80K {α : Type} (G : S_g80 α) (ls : List Lf) (k : KRe α) : Option α :=
  G (lf ls 0).int (lf ls 1).int (lf ls 2).bool
    (fun y0 => k (.vl (.sv (.bool y0))) [] [])
def g80R {α : Type} (G : S_g80 α) := rowK g80tp g80bp (g80K G)
def g80hd   : Hd where
  call := fun f args Bs k => none
  loop := fun id st k => none
  ro := fun f => []
def g80h (m : Nat) : Hd := g80hd
theorem g80Main   {α : Type} (ls : List Lf) (k : KRe α) :
    g80K (g80b) ls k = evFun tab (g80hd) Go.Proofs.Tryd.f80 (fillT g80tp ls).1 (fillB g80bp (fillT g80tp ls).2).1 k := by kernel_rfl
theorem g80Calls (m : Nat) : (g80h m).CallsOk Go.Proofs.Tryd.prog := cok_nil
theorem g80Fn (m : Nat) : FnOk Go.Proofs.Tryd.prog 80 g80tp g80bp (fun {α} => g80K (g80 m (α := α))) :=
  fn_ok (tab := tab) (h := g80h m) (fn := Go.Proofs.Tryd.f80) (F := fun {α} => g80K (g80 m (α := α))) tabOk (g80Calls m) mixed (by kernel_rfl) (by kernel_rfl) (fun c hc => by
    rw [bodyOf_some hc]
    exact loopsOk_of _ (fun p hp => by rw [show loopsOf (bodyOf Go.Proofs.Tryd.f80) = [] by kernel_rfl] at hp; cases hp))
    (fun α ls k => g80Main ls k)
theorem g80Ok (m : Nat) : RowOk Go.Proofs.Tryd.prog 80 (fun {α} => g80R (g80 m (α := α))) := row_of (g80Fn m)
abbrev S_g40 (α : Type) : Type := Nat → Nat → Nat → Nat → Ty0 → (Bool → Option α) → Option α
abbrev S_g40l0 (α : Type) : Type := Nat → Nat → Nat → Int → Nat → Ty0 → (Option α) → (Option α) → Int → Option α
def g40l0b {α : Type} (G_g74 : {α : Type} → S_g74 α) (G_g79 : {α : Type} → S_g79 α) (G_g80 : {α : Type} → S_g80 α)  (m293 : Nat) (m294 : Nat) (m295 : Nat) (v296 : Int) (m298 : Nat) (a299 : Ty0) (k354 : Option α) (k355 : Option α) (r356 : Int → Option α) (v297 : Int) : Option α :=
  cond (decide (v297 < v296))
   (
    if 0 ≤ v297 ∧ v297 < (m294 : Nat) then
      if (m293 + v297.toNat) < m298 then
        let x301 : Int := (List.getD a299 (m293 + v297.toNat) []).headD 0
        G_g74 x301
        (fun b318 b319 b320 =>
        cond (decide (x301 < (1 : Int)))
        (
        k354)
        (
        cond (decide (x301 > (12 : Int)))
        (
        k354)
        (
        G_g79 x301 ((List.getD a299 (m293 + v297.toNat) []).tail.tail.tail.headD 0) ((List.getD a299 (m293 + v297.toNat) []).tail.tail.tail.tail.headD 0)
        (fun b338 =>
        cond (!b338)
        (
        k354)
        (
        G_g80 ((List.getD a299 (m293 + v297.toNat) []).tail.headD 0) v297 b318
        (fun b349 =>
        cond (!b349)
        (
        k354)
        (
        G_g80 ((List.getD a299 (m293 + v297.toNat) []).tail.tail.headD 0) v297 b319
        (fun b351 =>
        cond (!b351)
        (
        k354)
        (
        r356 (IntKind.wrap .i64 (v297 + (1 : Int))))))))))))
      else
        none
    else
      none)
   (
    k355)
def g40l0 {α : Type} (G_g74 : {α : Type} → S_g74 α) (G_g79 : {α : Type} → S_g79 α) (G_g80 : {α : Type} → S_g80 α)  (m293 : Nat) (m294 : Nat) (m295 : Nat) (v296 : Int) (m298 : Nat) (a299 : Ty0) (k354 : Option α) (k355 : Option α) : Nat → Int → Option α
  | 0 => fun _ => none
  | m + 1 => fun v297 => g40l0b G_g74 G_g79 G_g80 m293 m294 m295 v296 m298 a299 k354 k355 (g40l0 G_g74 G_g79 G_g80 m293 m294 m295 v296 m298 a299 k354 k355 m) v297
def g40l0M {α : Type} (m : Nat) : S_g40l0 α :=
  fun m293 m294 m295 v296 m298 a299 k354 k355 v297 => g40l0 (g74 m) (g79 m) (g80 m) m293 m294 m295 v296 m298 a299 k354 k355 m v297
def g40l0D : LoopD := { n := 65, low := [0], sl := [16, 17, 18], bl := [0], tp := [(.vl (.sv (.slc 0 0 5))), (.vl (.sv (.int .i64))), (.vl (.sv (.int .i64)))], bp := [(false, [(.seqv (.rc [.i8, .i16, .i16, .i64, .i64]))])], xs := [(1, [2]), (2, [])] }
def g40l0K {α : Type} (L : S_g40l0 α) (ls : List Lf) (k : KEx α) : Option α :=
  L (lf ls 0).nat (lf ls 1).nat (lf ls 2).nat (lf ls 3).int (lf ls 5).nat ((lf ls 6).lst (.rc [.i8, .i16, .i16, .i64, .i64]))
    (k .ret (mkSt 65 [2] [(.vl (.sv (.bool false)))] [0] [(false, [(.seq (.rc [.i8, .i16, .i16, .i64, .i64]) (lf ls 5).nat ((lf ls 6).lst (.rc [.i8, .i16, .i16, .i64, .i64])))])]))
    (k .normal (mkSt 65 [] [] [0] [(false, [(.seq (.rc [.i8, .i16, .i16, .i64, .i64]) (lf ls 5).nat ((lf ls 6).lst (.rc [.i8, .i16, .i16, .i64, .i64])))])]))
    (lf ls 4).int
def g40b {α : Type} (G_g74 : {α : Type} → S_g74 α) (G_g79 : {α : Type} → S_g79 α) (G_g80 : {α : Type} → S_g80 α) (L_g40l0 : {α : Type} → S_g40l0 α) (m286 : Nat) (m287 : Nat) (m288 : Nat) (m289 : Nat) (u290 : Ty0) (k357 : Bool → Option α) : Option α :=
  cond (decide (((m287 : Nat) : Int) < (1 : Int)))
   (
    k357 false)
   (
    cond (decide (((m287 : Nat) : Int) > (40 : Int)))
     (
      k357 false)
     (
      L_g40l0 m286 m287 m288 ((m287 : Nat) : Int) m289 u290
        (
        k357 false)
        (
        k357 true)
        (0 : Int)))
def g40 {α : Type} (m : Nat) : S_g40 α :=
  g40b (g74 m) (g79 m) (g80 m) (g40l0M m)
def g40tp : List TP := [(.vl (.sv (.slc 0 0 5)))]
def g40bp : List BP := [(false, [(.seqv (.rc [.i8, .i16, .i16, .i64, .i64]))])]
def g40K {α : Type} (G : S_g40 α) (ls : List Lf) (k : KRe α) : Option α :=
  G (lf ls 0).nat (lf ls 1).nat (lf ls 2).nat (lf ls 3).nat ((lf ls 4).lst (.rc [.i8, .i16, .i16, .i64, .i64]))
    (fun y0 => k (.vl (.sv (.bool y0))) [[(.seq (.rc [.i8, .i16, .i16, .i64, .i64]) (lf ls 3).nat ((lf ls 4).lst (.rc [.i8, .i16, .i16, .i64, .i64])))]] [])
def g40hd (G_g74 : {α : Type} → S_g74 α) (G_g79 : {α : Type} → S_g79 α) (G_g80 : {α : Type} → S_g80 α) (L_g40l0 : {α : Type} → S_g40l0 α) : Hd where
  call := fun f args Bs k => cond (Nat.beq f 74) (g74R G_g74 args Bs k) (cond (Nat.beq f 79) (g79R G_g79 args Bs k) (cond (Nat.beq f 80) (g80R G_g80 args Bs k) (none)))
  loop := fun id st k => cond (Nat.beq id 0) (loopH g40l0D (g40l0K L_g40l0) st k) (none)
  ro := fun f => []
def g40h (m : Nat) : Hd := g40hd (g74 m) (g79 m) (g80 m) (g40l0M m)
theorem g40l0Step (G_g74 : {α : Type} → S_g74 α) (G_g79 : {α : Type} → S_g79 α) (G_g80 : {α : Type} → S_g80 α) (L_g40l0 : {α : Type} → S_g40l0 α) {α : Type} (L : S_g40l0 α) (ls : List Lf) (k : KEx α) :
    g40l0K (fun m293 m294 m295 v296 m298 a299 k354 k355 v297 => g40l0b G_g74 G_g79 G_g80 m293 m294 m295 v296 m298 a299 k354 k355 (L m293 m294 m295 v296 m298 a299 k354 k355) v297) ls k = ev tab (g40hd G_g74 G_g79 G_g80 L_g40l0) (bodyAt Go.Proofs.Tryd.f40 0) (atHead g40l0D ls) (loopK g40l0D 0 (loopH g40l0D (g40l0K L)) k) := by kernel_rfl
theorem g40Main (G_g74 : {α : Type} → S_g74 α) (G_g79 : {α : Type} → S_g79 α) (G_g80 : {α : Type} → S_g80 α) (L_g40l0 : {α : Type} → S_g40l0 α) {α : Type} (ls : List Lf) (k : KRe α) :
    g40K (g40b G_g74 G_g79 G_g80 L_g40l0) ls k = evFun tab (g40hd G_g74 G_g79 G_g80 L_g40l0) Go.Proofs.Tryd.f40 (fillT g40tp ls).1 (fillB g40bp (fillT g40tp ls).2).1 k := by kernel_rfl
theorem g40Calls (m : Nat) : (g40h m).CallsOk Go.Proofs.Tryd.prog := (cok_cons (g74Ok m) (cok_cons (g79Ok m) (cok_cons (g80Ok m) cok_nil)))
theorem g40l0Ok (m : Nat) (α : Type) (st : St) (k : KEx α) (r : α) (h : (g40h m).loop 0 st k = some r) :
    LoopS Go.Proofs.Tryd.prog 0 (bodyAt Go.Proofs.Tryd.f40 0) st k r :=
  loop_ok (tab := tab) (h := g40h m) (F := fun n ls k => g40l0K (fun m293 m294 m295 v296 m298 a299 k354 k355 v297 => g40l0 (g74 m) (g79 m) (g80 m) m293 m294 m295 v296 m298 a299 k354 k355 n v297) ls k) tabOk (g40Calls m) mixed (loopsOk_of _ (fun p hp => by rw [show loopsOf (bodyAt Go.Proofs.Tryd.f40 0) = [] by kernel_rfl] at hp; cases hp))
    (fun _ _ => rfl) (fun n ls k => g40l0Step (g74 m) (g79 m) (g80 m) (g40l0M m) (fun m293 m294 m295 v296 m298 a299 k354 k355 => g40l0 (g74 m) (g79 m) (g80 m) m293 m294 m295 v296 m298 a299 k354 k355 n) ls k) (n := m) h
theorem g40Fn (m : Nat) : FnOk Go.Proofs.Tryd.prog 40 g40tp g40bp (fun {α} => g40K (g40 m (α := α))) :=
  fn_ok (tab := tab) (h := g40h m) (fn := Go.Proofs.Tryd.f40) (F := fun {α} => g40K (g40 m (α := α))) tabOk (g40Calls m) mixed (by kernel_rfl) (by kernel_rfl) (fun c hc => by
    rw [bodyOf_some hc]
    exact loopsOk_of _ (fun p hp => by
    rw [show loopsOf (bodyOf Go.Proofs.Tryd.f40) = [(0, bodyAt Go.Proofs.Tryd.f40 0)] by kernel_rfl] at hp
    simp only [List.mem_cons, List.not_mem_nil, or_false] at hp
    rcases hp with rfl
    exact g40l0Ok m))
    (fun α ls k => g40Main (g74 m) (g79 m) (g80 m) (g40l0M m) ls k)
abbrev S_g82 (α : Type) : Type := Int → (ByteArray → Option α) → Option α
def g82b {α : Type}   (p366 : Int) (k368 : ByteArray → Option α) : Option α :=
  if 0 ≤ p366 ∧ p366 < (13 : Nat) then
    if (0 + p366.toNat) < 13 then
      k368 (List.getD [(⟨#[]⟩ : ByteArray), (⟨#[114, 97, 116, 105, 111]⟩ : ByteArray), (⟨#[115, 117, 109]⟩ : ByteArray), (⟨#[100, 105, 102, 102]⟩ : ByteArray), (⟨#[112, 114, 111, 100, 117, 99, 116]⟩ : ByteArray), (⟨#[113, 117, 111, 116, 105, 101, 110, 116]⟩ : ByteArray), (⟨#[110, 101, 103]⟩ : ByteArray), (⟨#[97, 98, 115]⟩ : ByteArray), (⟨#[109, 105, 110]⟩ : ByteArray), (⟨#[109, 97, 120]⟩ : ByteArray), (⟨#[114, 111, 111, 116]⟩ : ByteArray), (⟨#[112, 105]⟩ : ByteArray), (⟨#[101, 117, 108, 101, 114]⟩ : ByteArray)] (0 + p366.toNat) ⟨#[]⟩)
    else
      none
  else
    none
def g82 {α : Type} (m : Nat) : S_g82 α :=
  g82b
def g82tp : List TP := [(.vl (.sv (.int .i8)))]
def g82bp : List BP := []
def g82K {α : Type} (G : S_g82 α) (ls : List Lf) (k : KRe α) : Option α :=
  G (lf ls 0).int
    (fun y0 => k (.vl (.sv (.str y0))) [] [])
def g82R {α : Type} (G : S_g82 α) := rowK g82tp g82bp (g82K G)
def g82hd   : Hd where
  call := fun f args Bs k => none
  loop := fun id st k => none
  ro := fun f => []
def g82h (m : Nat) : Hd := g82hd
theorem g82Main   {α : Type} (ls : List Lf) (k : KRe α) :
    g82K (g82b) ls k = evFun tab (g82hd) Go.Proofs.Tryd.f82 (fillT g82tp ls).1 (fillB g82bp (fillT g82tp ls).2).1 k := by kernel_rfl
theorem g82Calls (m : Nat) : (g82h m).CallsOk Go.Proofs.Tryd.prog := cok_nil
theorem g82Fn (m : Nat) : FnOk Go.Proofs.Tryd.prog 82 g82tp g82bp (fun {α} => g82K (g82 m (α := α))) :=
  fn_ok (tab := tab) (h := g82h m) (fn := Go.Proofs.Tryd.f82) (F := fun {α} => g82K (g82 m (α := α))) tabOk (g82Calls m) mixed (by kernel_rfl) (by kernel_rfl) (fun c hc => by
    rw [bodyOf_some hc]
    exact loopsOk_of _ (fun p hp => by rw [show loopsOf (bodyOf Go.Proofs.Tryd.f82) = [] by kernel_rfl] at hp; cases hp))
    (fun α ls k => g82Main ls k)
theorem g82Ok (m : Nat) : RowOk Go.Proofs.Tryd.prog 82 (fun {α} => g82R (g82 m (α := α))) := row_of (g82Fn m)
abbrev S_g136 (α : Type) : Type := Int → (Int → Option α) → Option α
def g136b {α : Type}   (p383 : Int) (k430 : Int → Option α) : Option α :=
  cond (decide (p383 ≥ (4294967296 : Int)))
   (
    let x385 : Int := Int.fdiv p383 (2 ^ 32)
    cond (decide (x385 ≥ (65536 : Int)))
     (
      let x387 : Int := Int.fdiv x385 (2 ^ 16)
      cond (decide (x387 ≥ (256 : Int)))
       (
        let x390 : Int := IntKind.wrap .u8 (Int.fdiv x387 (2 ^ 8))
        if 0 ≤ x390 ∧ x390 < strC0.size then
        k430 (IntKind.wrap .i64 ((56 : Int) + (IntKind.wrap .i64 (byteAt strC0 x390.toNat))))
        else
        none)
       (
        let x394 : Int := IntKind.wrap .u8 x387
        if 0 ≤ x394 ∧ x394 < strC0.size then
        k430 (IntKind.wrap .i64 ((48 : Int) + (IntKind.wrap .i64 (byteAt strC0 x394.toNat))))
        else
        none))
     (
      cond (decide (x385 ≥ (256 : Int)))
       (
        let x400 : Int := IntKind.wrap .u8 (Int.fdiv x385 (2 ^ 8))
        if 0 ≤ x400 ∧ x400 < strC0.size then
        k430 (IntKind.wrap .i64 ((40 : Int) + (IntKind.wrap .i64 (byteAt strC0 x400.toNat))))
        else
        none)
       (
        let x404 : Int := IntKind.wrap .u8 x385
        if 0 ≤ x404 ∧ x404 < strC0.size then
        k430 (IntKind.wrap .i64 ((32 : Int) + (IntKind.wrap .i64 (byteAt strC0 x404.toNat))))
        else
        none)))
   (
    cond (decide (p383 ≥ (65536 : Int)))
     (
      let x409 : Int := Int.fdiv p383 (2 ^ 16)
      cond (decide (x409 ≥ (256 : Int)))
       (
        let x412 : Int := IntKind.wrap .u8 (Int.fdiv x409 (2 ^ 8))
        if 0 ≤ x412 ∧ x412 < strC0.size then
        k430 (IntKind.wrap .i64 ((24 : Int) + (IntKind.wrap .i64 (byteAt strC0 x412.toNat))))
        else
        none)
       (
        let x416 : Int := IntKind.wrap .u8 x409
        if 0 ≤ x416 ∧ x416 < strC0.size then
        k430 (IntKind.wrap .i64 ((16 : Int) + (IntKind.wrap .i64 (byteAt strC0 x416.toNat))))
        else
        none))
     (
      cond (decide (p383 ≥ (256 : Int)))
       (
        let x422 : Int := IntKind.wrap .u8 (Int.fdiv p383 (2 ^ 8))
        if 0 ≤ x422 ∧ x422 < strC0.size then
        k430 (IntKind.wrap .i64 ((8 : Int) + (IntKind.wrap .i64 (byteAt strC0 x422.toNat))))
        else
        none)
       (
        let x426 : Int := IntKind.wrap .u8 p383
        if 0 ≤ x426 ∧ x426 < strC0.size then
        k430 (IntKind.wrap .i64 ((0 : Int) + (IntKind.wrap .i64 (byteAt strC0 x426.toNat))))
        else
        none)))
def g136 {α : Type} (m : Nat) : S_g136 α :=
  g136b
def g136tp : List TP := [(.vl (.sv (.int .u64)))]
def g136bp : List BP := []
def g136K {α : Type} (G : S_g136 α) (ls : List Lf) (k : KRe α) : Option α :=
  G (lf ls 0).int
    (fun y0 => k (.vl (.sv (.int .i64 y0))) [] [])
def g136R {α : Type} (G : S_g136 α) := rowK g136tp g136bp (g136K G)
def g136hd   : Hd where
  call := fun f args Bs k => none
  loop := fun id st k => none
  ro := fun f => []
def g136h (m : Nat) : Hd := g136hd
theorem g136Main   {α : Type} (ls : List Lf) (k : KRe α) :
    g136K (g136b) ls k = evFun tab (g136hd) Go.Proofs.Tryd.f136 (fillT g136tp ls).1 (fillB g136bp (fillT g136tp ls).2).1 k := by kernel_rfl
theorem g136Calls (m : Nat) : (g136h m).CallsOk Go.Proofs.Tryd.prog := cok_nil
theorem g136Fn (m : Nat) : FnOk Go.Proofs.Tryd.prog 136 g136tp g136bp (fun {α} => g136K (g136 m (α := α))) :=
  fn_ok (tab := tab) (h := g136h m) (fn := Go.Proofs.Tryd.f136) (F := fun {α} => g136K (g136 m (α := α))) tabOk (g136Calls m) mixed (by kernel_rfl) (by kernel_rfl) (fun c hc => by
    rw [bodyOf_some hc]
    exact loopsOk_of _ (fun p hp => by rw [show loopsOf (bodyOf Go.Proofs.Tryd.f136) = [] by kernel_rfl] at hp; cases hp))
    (fun α ls k => g136Main ls k)
theorem g136Ok (m : Nat) : RowOk Go.Proofs.Tryd.prog 136 (fun {α} => g136R (g136 m (α := α))) := row_of (g136Fn m)
abbrev S_g135 (α : Type) : Type := Int → (Int → Option α) → Option α
def g135b {α : Type}   (p432 : Int) (k435 : Int → Option α) : Option α :=
  k435 (Int.fdiv (IntKind.wrap .i64 (p432 * (78913 : Int))) (2 ^ 18))
def g135 {α : Type} (m : Nat) : S_g135 α :=
  g135b
def g135tp : List TP := [(.vl (.sv (.int .i64)))]
def g135bp : List BP := []
def g135K {α : Type} (G : S_g135 α) (ls : List Lf) (k : KRe α) : Option α :=
  G (lf ls 0).int
    (fun y0 => k (.vl (.sv (.int .i64 y0))) [] [])
def g135R {α : Type} (G : S_g135 α) := rowK g135tp g135bp (g135K G)
def g135hd   : Hd where
  call := fun f args Bs k => none
  loop := fun id st k => none
  ro := fun f => []
def g135h (m : Nat) : Hd := g135hd
theorem g135Main   {α : Type} (ls : List Lf) (k : KRe α) :
    g135K (g135b) ls k = evFun tab (g135hd) Go.Proofs.Tryd.f135 (fillT g135tp ls).1 (fillB g135bp (fillT g135tp ls).2).1 k := by kernel_rfl
theorem g135Calls (m : Nat) : (g135h m).CallsOk Go.Proofs.Tryd.prog := cok_nil
theorem g135Fn (m : Nat) : FnOk Go.Proofs.Tryd.prog 135 g135tp g135bp (fun {α} => g135K (g135 m (α := α))) :=
  fn_ok (tab := tab) (h := g135h m) (fn := Go.Proofs.Tryd.f135) (F := fun {α} => g135K (g135 m (α := α))) tabOk (g135Calls m) mixed (by kernel_rfl) (by kernel_rfl) (fun c hc => by
    rw [bodyOf_some hc]
    exact loopsOk_of _ (fun p hp => by rw [show loopsOf (bodyOf Go.Proofs.Tryd.f135) = [] by kernel_rfl] at hp; cases hp))
    (fun α ls k => g135Main ls k)
theorem g135Ok (m : Nat) : RowOk Go.Proofs.Tryd.prog 135 (fun {α} => g135R (g135 m (α := α))) := row_of (g135Fn m)
abbrev S_g137 (α : Type) : Type := Bool → (Int → Option α) → Option α
def g137b {α : Type}   (q439 : Bool) (k440 : Int → Option α) : Option α :=
  cond q439
   (
    k440 (1 : Int))
   (
    k440 (0 : Int))
def g137 {α : Type} (m : Nat) : S_g137 α :=
  g137b
def g137tp : List TP := [(.vl (.sv .bool))]
def g137bp : List BP := []
def g137K {α : Type} (G : S_g137 α) (ls : List Lf) (k : KRe α) : Option α :=
  G (lf ls 0).bool
    (fun y0 => k (.vl (.sv (.int .i64 y0))) [] [])
def g137R {α : Type} (G : S_g137 α) := rowK g137tp g137bp (g137K G)
def g137hd   : Hd where
  call := fun f args Bs k => none
  loop := fun id st k => none
  ro := fun f => []
def g137h (m : Nat) : Hd := g137hd
theorem g137Main   {α : Type} (ls : List Lf) (k : KRe α) :
    g137K (g137b) ls k = evFun tab (g137hd) Go.Proofs.Tryd.f137 (fillT g137tp ls).1 (fillB g137bp (fillT g137tp ls).2).1 k := by kernel_rfl
theorem g137Calls (m : Nat) : (g137h m).CallsOk Go.Proofs.Tryd.prog := cok_nil
theorem g137Fn (m : Nat) : FnOk Go.Proofs.Tryd.prog 137 g137tp g137bp (fun {α} => g137K (g137 m (α := α))) :=
  fn_ok (tab := tab) (h := g137h m) (fn := Go.Proofs.Tryd.f137) (F := fun {α} => g137K (g137 m (α := α))) tabOk (g137Calls m) mixed (by kernel_rfl) (by kernel_rfl) (fun c hc => by
    rw [bodyOf_some hc]
    exact loopsOk_of _ (fun p hp => by rw [show loopsOf (bodyOf Go.Proofs.Tryd.f137) = [] by kernel_rfl] at hp; cases hp))
    (fun α ls k => g137Main ls k)
theorem g137Ok (m : Nat) : RowOk Go.Proofs.Tryd.prog 137 (fun {α} => g137R (g137 m (α := α))) := row_of (g137Fn m)
abbrev S_g127 (α : Type) : Type := Int → (Int → Option α) → Option α
def g127b {α : Type} (G_g136 : {α : Type} → S_g136 α) (G_g135 : {α : Type} → S_g135 α) (G_g137 : {α : Type} → S_g137 α)  (p382 : Int) (k443 : Int → Option α) : Option α :=
  G_g136 p382
    (fun x431 =>
      G_g135 x431
        (fun x436 =>
        if 0 ≤ x436 ∧ x436 < (20 : Nat) then
        if x436.toNat < pow10L.length then
        G_g137 (decide (p382 ≥ (List.getD pow10L (x436.toNat) 0)))
        (fun x441 =>
        k443 (IntKind.wrap .i64 (x436 + x441)))
        else
        none
        else
        none))
def g127 {α : Type} (m : Nat) : S_g127 α :=
  g127b (g136 m) (g135 m) (g137 m)
def g127tp : List TP := [(.vl (.sv (.int .u64)))]
def g127bp : List BP := []
def g127K {α : Type} (G : S_g127 α) (ls : List Lf) (k : KRe α) : Option α :=
  G (lf ls 0).int
    (fun y0 => k (.vl (.sv (.int .i64 y0))) [] [])
def g127R {α : Type} (G : S_g127 α) := rowK g127tp g127bp (g127K G)
def g127hd (G_g136 : {α : Type} → S_g136 α) (G_g135 : {α : Type} → S_g135 α) (G_g137 : {α : Type} → S_g137 α)  : Hd where
  call := fun f args Bs k => cond (Nat.beq f 136) (g136R G_g136 args Bs k) (cond (Nat.beq f 135) (g135R G_g135 args Bs k) (cond (Nat.beq f 137) (g137R G_g137 args Bs k) (none)))
  loop := fun id st k => none
  ro := fun f => []
def g127h (m : Nat) : Hd := g127hd (g136 m) (g135 m) (g137 m)
theorem g127Main (G_g136 : {α : Type} → S_g136 α) (G_g135 : {α : Type} → S_g135 α) (G_g137 : {α : Type} → S_g137 α)  {α : Type} (ls : List Lf) (k : KRe α) :
    g127K (g127b G_g136 G_g135 G_g137) ls k = evFun tab (g127hd G_g136 G_g135 G_g137) Go.Proofs.Tryd.f127 (fillT g127tp ls).1 (fillB g127bp (fillT g127tp ls).2).1 k := by kernel_rfl
theorem g127Calls (m : Nat) : (g127h m).CallsOk Go.Proofs.Tryd.prog := (cok_cons (g136Ok m) (cok_cons (g135Ok m) (cok_cons (g137Ok m) cok_nil)))
theorem g127Fn (m : Nat) : FnOk Go.Proofs.Tryd.prog 127 g127tp g127bp (fun {α} => g127K (g127 m (α := α))) :=
  fn_ok (tab := tab) (h := g127h m) (fn := Go.Proofs.Tryd.f127) (F := fun {α} => g127K (g127 m (α := α))) tabOk (g127Calls m) mixed (by kernel_rfl) (by kernel_rfl) (fun c hc => by
    rw [bodyOf_some hc]
    exact loopsOk_of _ (fun p hp => by rw [show loopsOf (bodyOf Go.Proofs.Tryd.f127) = [] by kernel_rfl] at hp; cases hp))
    (fun α ls k => g127Main (g136 m) (g135 m) (g137 m) ls k)
theorem g127Ok (m : Nat) : RowOk Go.Proofs.Tryd.prog 127 (fun {α} => g127R (g127 m (α := α))) := row_of (g127Fn m)
abbrev S_g128 (α : Type) : Type := Nat → Nat → Nat → Int → (List Int) → ((List Int) → Option α) → Option α
abbrev S_g128l0 (α : Type) : Type := Nat → Nat → Nat → (Int → Int → (List Int) → Option α) → Int → Int → (List Int) → Option α
def g128l0b {α : Type}   (m452 : Nat) (m453 : Nat) (m454 : Nat) (k501 : Int → Int → (List Int) → Option α) (r502 : Int → Int → (List Int) → Option α) (v455 : Int) (v456 : Int) (a457 : List Int) : Option α :=
  cond (decide (v456 ≥ (8 : Int)))
   (
    let x460 : Int := IntKind.wrap .u32 (Int.tmod v455 (100000000 : Int))
    let x462 : Int := IntKind.wrap .u32 (Int.tdiv x460 (10000 : Int))
    let x463 : Int := Int.tmod x460 (10000 : Int)
    let x465 : Int := IntKind.wrap .u32 ((IntKind.wrap .u32 (Int.tdiv x463 (100 : Int))) * (2 : Int))
    let x467 : Int := IntKind.wrap .u32 ((Int.tmod x463 (100 : Int)) * (2 : Int))
    let x469 : Int := IntKind.wrap .u32 ((IntKind.wrap .u32 (Int.tdiv x462 (100 : Int))) * (2 : Int))
    let x471 : Int := IntKind.wrap .u32 ((Int.tmod x462 (100 : Int)) * (2 : Int))
    let x472 : Int := IntKind.wrap .i64 (v456 - (1 : Int))
    let x473 : Int := IntKind.wrap .i64 (v456 - (2 : Int))
    let x474 : Int := IntKind.wrap .u32 (x467 + (1 : Int))
    if 0 ≤ x474 ∧ x474 < strC2.size then
      if 0 ≤ x467 ∧ x467 < strC2.size then
        if 0 ≤ x472 ∧ x472 < (m453 : Nat) then
        if (m452 + x472.toNat) < 24 then
        if 0 ≤ x473 ∧ x473 < (m453 : Nat) then
        if (m452 + x473.toNat) < 24 then
        let x479 : Int := IntKind.wrap .i64 (v456 - (3 : Int))
        let x480 : Int := IntKind.wrap .i64 (v456 - (4 : Int))
        let x481 : Int := IntKind.wrap .u32 (x465 + (1 : Int))
        if 0 ≤ x481 ∧ x481 < strC2.size then
        if 0 ≤ x465 ∧ x465 < strC2.size then
        if 0 ≤ x479 ∧ x479 < (m453 : Nat) then
        if (m452 + x479.toNat) < 24 then
        if 0 ≤ x480 ∧ x480 < (m453 : Nat) then
        if (m452 + x480.toNat) < 24 then
        let x486 : Int := IntKind.wrap .i64 (v456 - (5 : Int))
        let x487 : Int := IntKind.wrap .i64 (v456 - (6 : Int))
        let x488 : Int := IntKind.wrap .u32 (x471 + (1 : Int))
        if 0 ≤ x488 ∧ x488 < strC2.size then
        if 0 ≤ x471 ∧ x471 < strC2.size then
        if 0 ≤ x486 ∧ x486 < (m453 : Nat) then
        if (m452 + x486.toNat) < 24 then
        if 0 ≤ x487 ∧ x487 < (m453 : Nat) then
        if (m452 + x487.toNat) < 24 then
        let x493 : Int := IntKind.wrap .i64 (v456 - (7 : Int))
        let x494 : Int := IntKind.wrap .i64 (v456 - (8 : Int))
        let x495 : Int := IntKind.wrap .u32 (x469 + (1 : Int))
        if 0 ≤ x495 ∧ x495 < strC2.size then
        if 0 ≤ x469 ∧ x469 < strC2.size then
        if 0 ≤ x493 ∧ x493 < (m453 : Nat) then
        if (m452 + x493.toNat) < 24 then
        if 0 ≤ x494 ∧ x494 < (m453 : Nat) then
        if (m452 + x494.toNat) < 24 then
        r502 (IntKind.wrap .u64 (Int.tdiv v455 (100000000 : Int))) (IntKind.wrap .i64 (v456 - (8 : Int))) (List.set (List.set (List.set (List.set (List.set (List.set (List.set (List.set a457 (m452 + x472.toNat) (byteAt strC2 x474.toNat)) (m452 + x473.toNat) (byteAt strC2 x467.toNat)) (m452 + x479.toNat) (byteAt strC2 x481.toNat)) (m452 + x480.toNat) (byteAt strC2 x465.toNat)) (m452 + x486.toNat) (byteAt strC2 x488.toNat)) (m452 + x487.toNat) (byteAt strC2 x471.toNat)) (m452 + x493.toNat) (byteAt strC2 x495.toNat)) (m452 + x494.toNat) (byteAt strC2 x469.toNat))
        else
        none
        else
        none
        else
        none
        else
        none
        else
        none
        else
        none
        else
        none
        else
        none
        else
        none
        else
        none
        else
        none
        else
        none
        else
        none
        else
        none
        else
        none
        else
        none
        else
        none
        else
        none
        else
        none
        else
        none
        else
        none
        else
        none
      else
        none
    else
      none)
   (
    k501 v455 v456 a457)
def g128l0 {α : Type}   (m452 : Nat) (m453 : Nat) (m454 : Nat) (k501 : Int → Int → (List Int) → Option α) : Nat → Int → Int → (List Int) → Option α
  | 0 => fun _ _ _ => none
  | m + 1 => fun v455 v456 a457 => g128l0b m452 m453 m454 k501 (g128l0 m452 m453 m454 k501 m) v455 v456 a457
def g128l0M {α : Type} (m : Nat) : S_g128l0 α :=
  fun m452 m453 m454 k501 v455 v456 a457 => g128l0 m452 m453 m454 k501 m v455 v456 a457
def g128l0D : LoopD := { n := 167, low := [0], sl := [0, 1, 4], bl := [0], tp := [(.vl (.sv (.slc 0 0 1))), (.vl (.sv (.int .u64))), (.vl (.sv (.int .i64)))], bp := [(true, [(.seq (.int .u8) 24)])], xs := [(2, [0, 1, 4])] }
def g128l0K {α : Type} (L : S_g128l0 α) (ls : List Lf) (k : KEx α) : Option α :=
  L (lf ls 0).nat (lf ls 1).nat (lf ls 2).nat
    (fun y3 y4 y5 => k .normal (mkSt 167 [0, 1, 4] [(.vl (.sv (.slc 0 0 1 (lf ls 0).nat (lf ls 1).nat (lf ls 2).nat))), (.vl (.sv (.int .u64 y3))), (.vl (.sv (.int .i64 y4)))] [0] [(true, [(.seq (.int .u8) 24 y5)])]))
    (lf ls 3).int (lf ls 4).int ((lf ls 5).lst (.int .u8))
def g128b {α : Type}  (L_g128l0 : {α : Type} → S_g128l0 α) (m447 : Nat) (m448 : Nat) (m449 : Nat) (p450 : Int) (u451 : List Int) (k569 : (List Int) → Option α) : Option α :=
  L_g128l0 m447 m448 m449
    (fun x503 x504 l505 =>
      let x506 : Int := IntKind.wrap .u32 x503
      cond (decide (x504 ≥ (4 : Int)))
       (
        let x508 : Int := Int.tmod x506 (10000 : Int)
        let x509 : Int := IntKind.wrap .u32 (Int.tdiv x506 (10000 : Int))
        let x511 : Int := IntKind.wrap .u32 ((IntKind.wrap .u32 (Int.tdiv x508 (100 : Int))) * (2 : Int))
        let x513 : Int := IntKind.wrap .u32 ((Int.tmod x508 (100 : Int)) * (2 : Int))
        let x514 : Int := IntKind.wrap .i64 (x504 - (1 : Int))
        let x515 : Int := IntKind.wrap .i64 (x504 - (2 : Int))
        let x516 : Int := IntKind.wrap .u32 (x513 + (1 : Int))
        if 0 ≤ x516 ∧ x516 < strC2.size then
        if 0 ≤ x513 ∧ x513 < strC2.size then
        if 0 ≤ x514 ∧ x514 < (m448 : Nat) then
        if (m447 + x514.toNat) < 24 then
        if 0 ≤ x515 ∧ x515 < (m448 : Nat) then
        if (m447 + x515.toNat) < 24 then
        let x521 : Int := IntKind.wrap .i64 (x504 - (3 : Int))
        let x522 : Int := IntKind.wrap .i64 (x504 - (4 : Int))
        let x523 : Int := IntKind.wrap .u32 (x511 + (1 : Int))
        if 0 ≤ x523 ∧ x523 < strC2.size then
        if 0 ≤ x511 ∧ x511 < strC2.size then
        if 0 ≤ x521 ∧ x521 < (m448 : Nat) then
        if (m447 + x521.toNat) < 24 then
        if 0 ≤ x522 ∧ x522 < (m448 : Nat) then
        if (m447 + x522.toNat) < 24 then
        let l527 : List Int := List.set (List.set (List.set (List.set l505 (m447 + x514.toNat) (byteAt strC2 x516.toNat)) (m447 + x515.toNat) (byteAt strC2 x513.toNat)) (m447 + x521.toNat) (byteAt strC2 x523.toNat)) (m447 + x522.toNat) (byteAt strC2 x511.toNat)
        let x528 : Int := IntKind.wrap .i64 (x504 - (4 : Int))
        cond (decide (x528 ≥ (2 : Int)))
        (
        let x531 : Int := IntKind.wrap .u32 ((Int.tmod x509 (100 : Int)) * (2 : Int))
        let x533 : Int := IntKind.wrap .i64 (x528 - (1 : Int))
        let x534 : Int := IntKind.wrap .i64 (x528 - (2 : Int))
        let x535 : Int := IntKind.wrap .u32 (x531 + (1 : Int))
        if 0 ≤ x535 ∧ x535 < strC2.size then
        if 0 ≤ x531 ∧ x531 < strC2.size then
        if 0 ≤ x533 ∧ x533 < (m448 : Nat) then
        if (m447 + x533.toNat) < 24 then
        if 0 ≤ x534 ∧ x534 < (m448 : Nat) then
        if (m447 + x534.toNat) < 24 then
        let l539 : List Int := List.set (List.set l527 (m447 + x533.toNat) (byteAt strC2 x535.toNat)) (m447 + x534.toNat) (byteAt strC2 x531.toNat)
        cond (decide ((IntKind.wrap .i64 (x528 - (2 : Int))) > (0 : Int)))
        (
        if 0 ≤ (0 : Int) ∧ (0 : Int) < (m448 : Nat) then
        if (m447 + 0) < 24 then
        k569 (List.set l539 (m447 + 0) (IntKind.wrap .u8 (IntKind.wrap .u32 ((48 : Int) + (IntKind.wrap .u32 (Int.tdiv x509 (100 : Int)))))))
        else
        none
        else
        none)
        (
        k569 l539)
        else
        none
        else
        none
        else
        none
        else
        none
        else
        none
        else
        none)
        (
        cond (decide (x528 > (0 : Int)))
        (
        if 0 ≤ (0 : Int) ∧ (0 : Int) < (m448 : Nat) then
        if (m447 + 0) < 24 then
        k569 (List.set l527 (m447 + 0) (IntKind.wrap .u8 (IntKind.wrap .u32 ((48 : Int) + x509))))
        else
        none
        else
        none)
        (
        k569 l527))
        else
        none
        else
        none
        else
        none
        else
        none
        else
        none
        else
        none
        else
        none
        else
        none
        else
        none
        else
        none
        else
        none
        else
        none)
       (
        cond (decide (x504 ≥ (2 : Int)))
        (
        let x551 : Int := IntKind.wrap .u32 ((Int.tmod x506 (100 : Int)) * (2 : Int))
        let x553 : Int := IntKind.wrap .i64 (x504 - (1 : Int))
        let x554 : Int := IntKind.wrap .i64 (x504 - (2 : Int))
        let x555 : Int := IntKind.wrap .u32 (x551 + (1 : Int))
        if 0 ≤ x555 ∧ x555 < strC2.size then
        if 0 ≤ x551 ∧ x551 < strC2.size then
        if 0 ≤ x553 ∧ x553 < (m448 : Nat) then
        if (m447 + x553.toNat) < 24 then
        if 0 ≤ x554 ∧ x554 < (m448 : Nat) then
        if (m447 + x554.toNat) < 24 then
        let l559 : List Int := List.set (List.set l505 (m447 + x553.toNat) (byteAt strC2 x555.toNat)) (m447 + x554.toNat) (byteAt strC2 x551.toNat)
        cond (decide ((IntKind.wrap .i64 (x504 - (2 : Int))) > (0 : Int)))
        (
        if 0 ≤ (0 : Int) ∧ (0 : Int) < (m448 : Nat) then
        if (m447 + 0) < 24 then
        k569 (List.set l559 (m447 + 0) (IntKind.wrap .u8 (IntKind.wrap .u32 ((48 : Int) + (IntKind.wrap .u32 (Int.tdiv x506 (100 : Int)))))))
        else
        none
        else
        none)
        (
        k569 l559)
        else
        none
        else
        none
        else
        none
        else
        none
        else
        none
        else
        none)
        (
        cond (decide (x504 > (0 : Int)))
        (
        if 0 ≤ (0 : Int) ∧ (0 : Int) < (m448 : Nat) then
        if (m447 + 0) < 24 then
        k569 (List.set l505 (m447 + 0) (IntKind.wrap .u8 (IntKind.wrap .u32 ((48 : Int) + x506))))
        else
        none
        else
        none)
        (
        k569 l505))))
    p450 ((m448 : Nat) : Int) u451
def g128 {α : Type} (m : Nat) : S_g128 α :=
  g128b (g128l0M m)
def g128tp : List TP := [(.vl (.sv (.slc 0 0 1))), (.vl (.sv (.int .u64)))]
def g128bp : List BP := [(true, [(.seq (.int .u8) 24)])]
def g128K {α : Type} (G : S_g128 α) (ls : List Lf) (k : KRe α) : Option α :=
  G (lf ls 0).nat (lf ls 1).nat (lf ls 2).nat (lf ls 3).int ((lf ls 4).lst (.int .u8))
    (fun y0 => k (.tup []) [[(.seq (.int .u8) 24 y0)]] [])
def g128R {α : Type} (G : S_g128 α) := rowK g128tp g128bp (g128K G)
def g128hd  (L_g128l0 : {α : Type} → S_g128l0 α) : Hd where
  call := fun f args Bs k => none
  loop := fun id st k => cond (Nat.beq id 0) (loopH g128l0D (g128l0K L_g128l0) st k) (none)
  ro := fun f => []
def g128h (m : Nat) : Hd := g128hd (g128l0M m)
theorem g128l0Step  (L_g128l0 : {α : Type} → S_g128l0 α) {α : Type} (L : S_g128l0 α) (ls : List Lf) (k : KEx α) :
    g128l0K (fun m452 m453 m454 k501 v455 v456 a457 => g128l0b m452 m453 m454 k501 (L m452 m453 m454 k501) v455 v456 a457) ls k = ev tab (g128hd L_g128l0) (bodyAt Go.Proofs.Tryd.f128 0) (atHead g128l0D ls) (loopK g128l0D 0 (loopH g128l0D (g128l0K L)) k) := by kernel_rfl
theorem g128Main  (L_g128l0 : {α : Type} → S_g128l0 α) {α : Type} (ls : List Lf) (k : KRe α) :
    g128K (g128b L_g128l0) ls k = evFun tab (g128hd L_g128l0) Go.Proofs.Tryd.f128 (fillT g128tp ls).1 (fillB g128bp (fillT g128tp ls).2).1 k := by kernel_rfl
theorem g128Calls (m : Nat) : (g128h m).CallsOk Go.Proofs.Tryd.prog := cok_nil
theorem g128l0Ok (m : Nat) (α : Type) (st : St) (k : KEx α) (r : α) (h : (g128h m).loop 0 st k = some r) :
    LoopS Go.Proofs.Tryd.prog 0 (bodyAt Go.Proofs.Tryd.f128 0) st k r :=
  loop_ok (tab := tab) (h := g128h m) (F := fun n ls k => g128l0K (fun m452 m453 m454 k501 v455 v456 a457 => g128l0 m452 m453 m454 k501 n v455 v456 a457) ls k) tabOk (g128Calls m) mixed (loopsOk_of _ (fun p hp => by rw [show loopsOf (bodyAt Go.Proofs.Tryd.f128 0) = [] by kernel_rfl] at hp; cases hp))
    (fun _ _ => rfl) (fun n ls k => g128l0Step (g128l0M m) (fun m452 m453 m454 k501 => g128l0 m452 m453 m454 k501 n) ls k) (n := m) h
theorem g128Fn (m : Nat) : FnOk Go.Proofs.Tryd.prog 128 g128tp g128bp (fun {α} => g128K (g128 m (α := α))) :=
  fn_ok (tab := tab) (h := g128h m) (fn := Go.Proofs.Tryd.f128) (F := fun {α} => g128K (g128 m (α := α))) tabOk (g128Calls m) mixed (by kernel_rfl) (by kernel_rfl) (fun c hc => by
    rw [bodyOf_some hc]
    exact loopsOk_of _ (fun p hp => by
    rw [show loopsOf (bodyOf Go.Proofs.Tryd.f128) = [(0, bodyAt Go.Proofs.Tryd.f128 0)] by kernel_rfl] at hp
    simp only [List.mem_cons, List.not_mem_nil, or_false] at hp
    rcases hp with rfl
    exact g128l0Ok m))
    (fun α ls k => g128Main (g128l0M m) ls k)
theorem g128Ok (m : Nat) : RowOk Go.Proofs.Tryd.prog 128 (fun {α} => g128R (g128 m (α := α))) := row_of (g128Fn m)
abbrev S_g114 (α : Type) : Type := Int → Int → (ByteArray → Option α) → Option α
def g114b {α : Type} (G_g126 : {α : Type} → S_g126 α) (G_g127 : {α : Type} → S_g127 α) (G_g128 : {α : Type} → S_g128 α)  (p373 : Int) (p374 : Int) (k620 : ByteArray → Option α) : Option α :=
  cond (p374 == (10 : Int))
   (
    cond (decide ((0 : Int) ≤ p373))
     (
      cond (decide (p373 < (100 : Int)))
       (
        G_g126 p373
        (fun s378 =>
        k620 s378))
       (
        let x379 : Int := IntKind.wrap .u64 p373
        cond (decide (p373 < (0 : Int)))
        (
        let x381 : Int := IntKind.wrap .u64 (0 - x379)
        G_g127 x381
        (fun x444 =>
        let x445 : Int := IntKind.wrap .i64 ((1 : Int) + x444)
        if 0 ≤ (1 : Int) ∧ (1 : Int) ≤ x445 ∧ x445 ≤ ((24 : Nat) : Int) then
        G_g128 1 ((Int.toNat x445) - 1) 23 x381 (List.replicate 24 0)
        (fun l570 =>
        cond (decide (p373 < (0 : Int)))
        (
        let x573 : Int := IntKind.wrap .i64 ((1 : Int) + x444)
        if 0 ≤ (0 : Int) ∧ (0 : Int) ≤ x573 ∧ x573 ≤ ((24 : Nat) : Int) then
        let n574 : Nat := (Int.toNat x573) - 0
        if 0 + n574 ≤ 24 then
        k620 (bytesS (List.take n574 (List.drop 0 (List.set l570 0 (45 : Int)))))
        else
        none
        else
        none)
        (
        let x576 : Int := IntKind.wrap .i64 ((1 : Int) + x444)
        if 0 ≤ (1 : Int) ∧ (1 : Int) ≤ x576 ∧ x576 ≤ ((24 : Nat) : Int) then
        let n577 : Nat := (Int.toNat x576) - 1
        if 1 + n577 ≤ 24 then
        k620 (bytesS (List.take n577 (List.drop 1 l570)))
        else
        none
        else
        none))
        else
        none))
        (
        G_g127 x379
        (fun x579 =>
        let x580 : Int := IntKind.wrap .i64 ((1 : Int) + x579)
        if 0 ≤ (1 : Int) ∧ (1 : Int) ≤ x580 ∧ x580 ≤ ((24 : Nat) : Int) then
        G_g128 1 ((Int.toNat x580) - 1) 23 x379 (List.replicate 24 0)
        (fun l582 =>
        cond (decide (p373 < (0 : Int)))
        (
        let x585 : Int := IntKind.wrap .i64 ((1 : Int) + x579)
        if 0 ≤ (0 : Int) ∧ (0 : Int) ≤ x585 ∧ x585 ≤ ((24 : Nat) : Int) then
        let n586 : Nat := (Int.toNat x585) - 0
        if 0 + n586 ≤ 24 then
        k620 (bytesS (List.take n586 (List.drop 0 (List.set l582 0 (45 : Int)))))
        else
        none
        else
        none)
        (
        let x588 : Int := IntKind.wrap .i64 ((1 : Int) + x579)
        if 0 ≤ (1 : Int) ∧ (1 : Int) ≤ x588 ∧ x588 ≤ ((24 : Nat) : Int) then
        let n589 : Nat := (Int.toNat x588) - 1
        if 1 + n589 ≤ 24 then
        k620 (bytesS (List.take n589 (List.drop 1 l582)))
        else
        none
        else
        none))
        else
        none))))
     (
      let x591 : Int := IntKind.wrap .u64 p373
      cond (decide (p373 < (0 : Int)))
       (
        let x593 : Int := IntKind.wrap .u64 (0 - x591)
        G_g127 x593
        (fun x594 =>
        let x595 : Int := IntKind.wrap .i64 ((1 : Int) + x594)
        if 0 ≤ (1 : Int) ∧ (1 : Int) ≤ x595 ∧ x595 ≤ ((24 : Nat) : Int) then
        G_g128 1 ((Int.toNat x595) - 1) 23 x593 (List.replicate 24 0)
        (fun l597 =>
        cond (decide (p373 < (0 : Int)))
        (
        let x600 : Int := IntKind.wrap .i64 ((1 : Int) + x594)
        if 0 ≤ (0 : Int) ∧ (0 : Int) ≤ x600 ∧ x600 ≤ ((24 : Nat) : Int) then
        let n601 : Nat := (Int.toNat x600) - 0
        if 0 + n601 ≤ 24 then
        k620 (bytesS (List.take n601 (List.drop 0 (List.set l597 0 (45 : Int)))))
        else
        none
        else
        none)
        (
        let x603 : Int := IntKind.wrap .i64 ((1 : Int) + x594)
        if 0 ≤ (1 : Int) ∧ (1 : Int) ≤ x603 ∧ x603 ≤ ((24 : Nat) : Int) then
        let n604 : Nat := (Int.toNat x603) - 1
        if 1 + n604 ≤ 24 then
        k620 (bytesS (List.take n604 (List.drop 1 l597)))
        else
        none
        else
        none))
        else
        none))
       (
        G_g127 x591
        (fun x606 =>
        let x607 : Int := IntKind.wrap .i64 ((1 : Int) + x606)
        if 0 ≤ (1 : Int) ∧ (1 : Int) ≤ x607 ∧ x607 ≤ ((24 : Nat) : Int) then
        G_g128 1 ((Int.toNat x607) - 1) 23 x591 (List.replicate 24 0)
        (fun l609 =>
        cond (decide (p373 < (0 : Int)))
        (
        let x612 : Int := IntKind.wrap .i64 ((1 : Int) + x606)
        if 0 ≤ (0 : Int) ∧ (0 : Int) ≤ x612 ∧ x612 ≤ ((24 : Nat) : Int) then
        let n613 : Nat := (Int.toNat x612) - 0
        if 0 + n613 ≤ 24 then
        k620 (bytesS (List.take n613 (List.drop 0 (List.set l609 0 (45 : Int)))))
        else
        none
        else
        none)
        (
        let x615 : Int := IntKind.wrap .i64 ((1 : Int) + x606)
        if 0 ≤ (1 : Int) ∧ (1 : Int) ≤ x615 ∧ x615 ≤ ((24 : Nat) : Int) then
        let n616 : Nat := (Int.toNat x615) - 1
        if 1 + n616 ≤ 24 then
        k620 (bytesS (List.take n616 (List.drop 1 l609)))
        else
        none
        else
        none))
        else
        none))))
   (
    none)
def g114 {α : Type} (m : Nat) : S_g114 α :=
  g114b (g126 m) (g127 m) (g128 m)
def g114tp : List TP := [(.vl (.sv (.int .i64))), (.vl (.sv (.int .i64)))]
def g114bp : List BP := []
def g114K {α : Type} (G : S_g114 α) (ls : List Lf) (k : KRe α) : Option α :=
  G (lf ls 0).int (lf ls 1).int
    (fun y0 => k (.vl (.sv (.str y0))) [] [])
def g114R {α : Type} (G : S_g114 α) := rowK g114tp g114bp (g114K G)
def g114hd (G_g126 : {α : Type} → S_g126 α) (G_g127 : {α : Type} → S_g127 α) (G_g128 : {α : Type} → S_g128 α)  : Hd where
  call := fun f args Bs k => cond (Nat.beq f 126) (g126R G_g126 args Bs k) (cond (Nat.beq f 127) (g127R G_g127 args Bs k) (cond (Nat.beq f 128) (g128R G_g128 args Bs k) (none)))
  loop := fun id st k => none
  ro := fun f => []
def g114h (m : Nat) : Hd := g114hd (g126 m) (g127 m) (g128 m)
theorem g114Main (G_g126 : {α : Type} → S_g126 α) (G_g127 : {α : Type} → S_g127 α) (G_g128 : {α : Type} → S_g128 α)  {α : Type} (ls : List Lf) (k : KRe α) :
    g114K (g114b G_g126 G_g127 G_g128) ls k = evFun tab (g114hd G_g126 G_g127 G_g128) Go.Proofs.Tryd.f114 (fillT g114tp ls).1 (fillB g114bp (fillT g114tp ls).2).1 k := by kernel_rfl
theorem g114Calls (m : Nat) : (g114h m).CallsOk Go.Proofs.Tryd.prog := (cok_cons (g126Ok m) (cok_cons (g127Ok m) (cok_cons (g128Ok m) cok_nil)))
theorem g114Fn (m : Nat) : FnOk Go.Proofs.Tryd.prog 114 g114tp g114bp (fun {α} => g114K (g114 m (α := α))) :=
  fn_ok (tab := tab) (h := g114h m) (fn := Go.Proofs.Tryd.f114) (F := fun {α} => g114K (g114 m (α := α))) tabOk (g114Calls m) mixed (by kernel_rfl) (by kernel_rfl) (fun c hc => by
    rw [bodyOf_some hc]
    exact loopsOk_of _ (fun p hp => by rw [show loopsOf (bodyOf Go.Proofs.Tryd.f114) = [] by kernel_rfl] at hp; cases hp))
    (fun α ls k => g114Main (g126 m) (g127 m) (g128 m) ls k)
theorem g114Ok (m : Nat) : RowOk Go.Proofs.Tryd.prog 114 (fun {α} => g114R (g114 m (α := α))) := row_of (g114Fn m)
abbrev S_g83 (α : Type) : Type := Int → Int → (ByteArray → Option α) → Option α
def g83b {α : Type} (G_g114 : {α : Type} → S_g114 α)  (p371 : Int) (p372 : Int) (k622 : ByteArray → Option α) : Option α :=
  G_g114 p371 p372
    (fun s621 =>
      k622 s621)
def g83 {α : Type} (m : Nat) : S_g83 α :=
  g83b (g114 m)
def g83tp : List TP := [(.vl (.sv (.int .i64))), (.vl (.sv (.int .i64)))]
def g83bp : List BP := []
def g83K {α : Type} (G : S_g83 α) (ls : List Lf) (k : KRe α) : Option α :=
  G (lf ls 0).int (lf ls 1).int
    (fun y0 => k (.vl (.sv (.str y0))) [] [])
def g83R {α : Type} (G : S_g83 α) := rowK g83tp g83bp (g83K G)
def g83hd (G_g114 : {α : Type} → S_g114 α)  : Hd where
  call := fun f args Bs k => cond (Nat.beq f 114) (g114R G_g114 args Bs k) (none)
  loop := fun id st k => none
  ro := fun f => []
def g83h (m : Nat) : Hd := g83hd (g114 m)
theorem g83Main (G_g114 : {α : Type} → S_g114 α)  {α : Type} (ls : List Lf) (k : KRe α) :
    g83K (g83b G_g114) ls k = evFun tab (g83hd G_g114) Go.Proofs.Tryd.f83 (fillT g83tp ls).1 (fillB g83bp (fillT g83tp ls).2).1 k := by kernel_rfl
theorem g83Calls (m : Nat) : (g83h m).CallsOk Go.Proofs.Tryd.prog := (cok_cons (g114Ok m) cok_nil)
theorem g83Fn (m : Nat) : FnOk Go.Proofs.Tryd.prog 83 g83tp g83bp (fun {α} => g83K (g83 m (α := α))) :=
  fn_ok (tab := tab) (h := g83h m) (fn := Go.Proofs.Tryd.f83) (F := fun {α} => g83K (g83 m (α := α))) tabOk (g83Calls m) mixed (by kernel_rfl) (by kernel_rfl) (fun c hc => by
    rw [bodyOf_some hc]
    exact loopsOk_of _ (fun p hp => by rw [show loopsOf (bodyOf Go.Proofs.Tryd.f83) = [] by kernel_rfl] at hp; cases hp))
    (fun α ls k => g83Main (g114 m) ls k)
theorem g83Ok (m : Nat) : RowOk Go.Proofs.Tryd.prog 83 (fun {α} => g83R (g83 m (α := α))) := row_of (g83Fn m)
abbrev S_g42 (α : Type) : Type := Int → Int → Int → ByteArray → ByteArray → (ByteArray → Option α) → Option α
def g42b {α : Type} (G_g74 : {α : Type} → S_g74 α) (G_g82 : {α : Type} → S_g82 α) (G_g83 : {α : Type} → S_g83 α)  (p358 : Int) (p359 : Int) (p360 : Int) (z361 : ByteArray) (z362 : ByteArray) (k634 : ByteArray → Option α) : Option α :=
  G_g74 p358
    (fun b363 b364 b365 =>
      G_g82 p358
        (fun s369 =>
        cond b365
        (
        if s369.size + (⟨#[32]⟩ : ByteArray).size ≤ 9223372036854775807 then
        let s370 : ByteArray := s369 ++ (⟨#[32]⟩ : ByteArray)
        G_g83 p359 (10 : Int)
        (fun s623 =>
        if s370.size + s623.size ≤ 9223372036854775807 then
        let s624 : ByteArray := s370 ++ s623
        if s624.size + (⟨#[32]⟩ : ByteArray).size ≤ 9223372036854775807 then
        let s625 : ByteArray := s624 ++ (⟨#[32]⟩ : ByteArray)
        G_g83 p360 (10 : Int)
        (fun s626 =>
        if s625.size + s626.size ≤ 9223372036854775807 then
        k634 (s625 ++ s626)
        else
        none)
        else
        none
        else
        none)
        else
        none)
        (
        cond b363
        (
        if (⟨#[32]⟩ : ByteArray).size + z361.size ≤ 9223372036854775807 then
        let s628 : ByteArray := (⟨#[32]⟩ : ByteArray) ++ z361
        if s369.size + s628.size ≤ 9223372036854775807 then
        let s629 : ByteArray := s369 ++ s628
        cond b364
        (
        if (⟨#[32]⟩ : ByteArray).size + z362.size ≤ 9223372036854775807 then
        let s630 : ByteArray := (⟨#[32]⟩ : ByteArray) ++ z362
        if s629.size + s630.size ≤ 9223372036854775807 then
        k634 (s629 ++ s630)
        else
        none
        else
        none)
        (
        k634 s629)
        else
        none
        else
        none)
        (
        cond b364
        (
        if (⟨#[32]⟩ : ByteArray).size + z362.size ≤ 9223372036854775807 then
        let s632 : ByteArray := (⟨#[32]⟩ : ByteArray) ++ z362
        if s369.size + s632.size ≤ 9223372036854775807 then
        k634 (s369 ++ s632)
        else
        none
        else
        none)
        (
        k634 s369)))))
def g42 {α : Type} (m : Nat) : S_g42 α :=
  g42b (g74 m) (g82 m) (g83 m)
def g42tp : List TP := [(.vl (.sv (.int .i8))), (.vl (.sv (.int .i64))), (.vl (.sv (.int .i64))), (.vl (.sv .str)), (.vl (.sv .str))]
def g42bp : List BP := []
def g42K {α : Type} (G : S_g42 α) (ls : List Lf) (k : KRe α) : Option α :=
  G (lf ls 0).int (lf ls 1).int (lf ls 2).int (lf ls 3).str (lf ls 4).str
    (fun y0 => k (.vl (.sv (.str y0))) [] [])
def g42hd (G_g74 : {α : Type} → S_g74 α) (G_g82 : {α : Type} → S_g82 α) (G_g83 : {α : Type} → S_g83 α)  : Hd where
  call := fun f args Bs k => cond (Nat.beq f 74) (g74R G_g74 args Bs k) (cond (Nat.beq f 82) (g82R G_g82 args Bs k) (cond (Nat.beq f 83) (g83R G_g83 args Bs k) (none)))
  loop := fun id st k => none
  ro := fun f => []
def g42h (m : Nat) : Hd := g42hd (g74 m) (g82 m) (g83 m)
theorem g42Main (G_g74 : {α : Type} → S_g74 α) (G_g82 : {α : Type} → S_g82 α) (G_g83 : {α : Type} → S_g83 α)  {α : Type} (ls : List Lf) (k : KRe α) :
    g42K (g42b G_g74 G_g82 G_g83) ls k = evFun tab (g42hd G_g74 G_g82 G_g83) Go.Proofs.Tryd.f42 (fillT g42tp ls).1 (fillB g42bp (fillT g42tp ls).2).1 k := by kernel_rfl
theorem g42Calls (m : Nat) : (g42h m).CallsOk Go.Proofs.Tryd.prog := (cok_cons (g74Ok m) (cok_cons (g82Ok m) (cok_cons (g83Ok m) cok_nil)))
theorem g42Fn (m : Nat) : FnOk Go.Proofs.Tryd.prog 42 g42tp g42bp (fun {α} => g42K (g42 m (α := α))) :=
  fn_ok (tab := tab) (h := g42h m) (fn := Go.Proofs.Tryd.f42) (F := fun {α} => g42K (g42 m (α := α))) tabOk (g42Calls m) mixed (by kernel_rfl) (by kernel_rfl) (fun c hc => by
    rw [bodyOf_some hc]
    exact loopsOk_of _ (fun p hp => by rw [show loopsOf (bodyOf Go.Proofs.Tryd.f42) = [] by kernel_rfl] at hp; cases hp))
    (fun α ls k => g42Main (g74 m) (g82 m) (g83 m) ls k)
abbrev S_g84 (α : Type) : Type := Int → (ByteArray → Option α) → Option α
def g84b {α : Type} (G_g114 : {α : Type} → S_g114 α)  (p636 : Int) (k638 : ByteArray → Option α) : Option α :=
  G_g114 p636 (10 : Int)
    (fun s637 =>
      k638 s637)
def g84 {α : Type} (m : Nat) : S_g84 α :=
  g84b (g114 m)
def g84tp : List TP := [(.vl (.sv (.int .i64)))]
def g84bp : List BP := []
def g84K {α : Type} (G : S_g84 α) (ls : List Lf) (k : KRe α) : Option α :=
  G (lf ls 0).int
    (fun y0 => k (.vl (.sv (.str y0))) [] [])
def g84R {α : Type} (G : S_g84 α) := rowK g84tp g84bp (g84K G)
def g84hd (G_g114 : {α : Type} → S_g114 α)  : Hd where
  call := fun f args Bs k => cond (Nat.beq f 114) (g114R G_g114 args Bs k) (none)
  loop := fun id st k => none
  ro := fun f => []
def g84h (m : Nat) : Hd := g84hd (g114 m)
theorem g84Main (G_g114 : {α : Type} → S_g114 α)  {α : Type} (ls : List Lf) (k : KRe α) :
    g84K (g84b G_g114) ls k = evFun tab (g84hd G_g114) Go.Proofs.Tryd.f84 (fillT g84tp ls).1 (fillB g84bp (fillT g84tp ls).2).1 k := by kernel_rfl
theorem g84Calls (m : Nat) : (g84h m).CallsOk Go.Proofs.Tryd.prog := (cok_cons (g114Ok m) cok_nil)
theorem g84Fn (m : Nat) : FnOk Go.Proofs.Tryd.prog 84 g84tp g84bp (fun {α} => g84K (g84 m (α := α))) :=
  fn_ok (tab := tab) (h := g84h m) (fn := Go.Proofs.Tryd.f84) (F := fun {α} => g84K (g84 m (α := α))) tabOk (g84Calls m) mixed (by kernel_rfl) (by kernel_rfl) (fun c hc => by
    rw [bodyOf_some hc]
    exact loopsOk_of _ (fun p hp => by rw [show loopsOf (bodyOf Go.Proofs.Tryd.f84) = [] by kernel_rfl] at hp; cases hp))
    (fun α ls k => g84Main (g114 m) ls k)
theorem g84Ok (m : Nat) : RowOk Go.Proofs.Tryd.prog 84 (fun {α} => g84R (g84 m (α := α))) := row_of (g84Fn m)
abbrev S_g43 (α : Type) : Type := Int → (ByteArray → Option α) → Option α
def g43b {α : Type} (G_g84 : {α : Type} → S_g84 α)  (p635 : Int) (k640 : ByteArray → Option α) : Option α :=
  G_g84 p635
    (fun s639 =>
      k640 s639)
def g43 {α : Type} (m : Nat) : S_g43 α :=
  g43b (g84 m)
def g43tp : List TP := [(.vl (.sv (.int .i64)))]
def g43bp : List BP := []
def g43K {α : Type} (G : S_g43 α) (ls : List Lf) (k : KRe α) : Option α :=
  G (lf ls 0).int
    (fun y0 => k (.vl (.sv (.str y0))) [] [])
def g43hd (G_g84 : {α : Type} → S_g84 α)  : Hd where
  call := fun f args Bs k => cond (Nat.beq f 84) (g84R G_g84 args Bs k) (none)
  loop := fun id st k => none
  ro := fun f => []
def g43h (m : Nat) : Hd := g43hd (g84 m)
theorem g43Main (G_g84 : {α : Type} → S_g84 α)  {α : Type} (ls : List Lf) (k : KRe α) :
    g43K (g43b G_g84) ls k = evFun tab (g43hd G_g84) Go.Proofs.Tryd.f43 (fillT g43tp ls).1 (fillB g43bp (fillT g43tp ls).2).1 k := by kernel_rfl
theorem g43Calls (m : Nat) : (g43h m).CallsOk Go.Proofs.Tryd.prog := (cok_cons (g84Ok m) cok_nil)
theorem g43Fn (m : Nat) : FnOk Go.Proofs.Tryd.prog 43 g43tp g43bp (fun {α} => g43K (g43 m (α := α))) :=
  fn_ok (tab := tab) (h := g43h m) (fn := Go.Proofs.Tryd.f43) (F := fun {α} => g43K (g43 m (α := α))) tabOk (g43Calls m) mixed (by kernel_rfl) (by kernel_rfl) (fun c hc => by
    rw [bodyOf_some hc]
    exact loopsOk_of _ (fun p hp => by rw [show loopsOf (bodyOf Go.Proofs.Tryd.f43) = [] by kernel_rfl] at hp; cases hp))
    (fun α ls k => g43Main (g84 m) ls k)
abbrev S_g10 (α : Type) : Type := Nat → Nat → Nat → Nat → Ty0 → (ByteArray → Option α) → Option α
def g10tp : List TP := [(.vl (.sv (.slc 0 0 5)))]
def g10bp : List BP := [(false, [(.seqv (.rc [.i8, .i16, .i16, .i64, .i64]))])]
def g10K {α : Type} (G : S_g10 α) (ls : List Lf) (k : KRe α) : Option α :=
  G (lf ls 0).nat (lf ls 1).nat (lf ls 2).nat (lf ls 3).nat ((lf ls 4).lst (.rc [.i8, .i16, .i16, .i64, .i64]))
    (fun y0 => k (.vl (.sv (.str y0))) [[(.seq (.rc [.i8, .i16, .i16, .i64, .i64]) (lf ls 3).nat ((lf ls 4).lst (.rc [.i8, .i16, .i16, .i64, .i64])))]] [])
def g10R {α : Type} (G : S_g10 α) := rowK g10tp g10bp (g10K G)
end Go.Proofs.YtlmmgjngihlpeaaDoor.Sx
