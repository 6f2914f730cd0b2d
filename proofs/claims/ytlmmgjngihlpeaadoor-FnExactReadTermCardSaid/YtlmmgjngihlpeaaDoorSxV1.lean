/- Functions. Printed by our own sx.py. -/
import Derived.Test.YtlmmgjngihlpeaaDoorSxMan
namespace Go.Proofs.YtlmmgjngihlpeaaDoor.Sx
open Go
set_option linter.unusedVariables false
set_option maxRecDepth 100000
abbrev S_g126 (α : Type) : Type := Int → (ByteArray → Option α) → Option α
def g126b {α : Type}   (p25 : Int) (k33 : ByteArray → Option α) : Option α :=
  cond (decide (p25 < (10 : Int)))
   (
    let x27 : Int := IntKind.wrap .i64 (p25 + (1 : Int))
    if 0 ≤ p25 ∧ p25 ≤ x27 ∧ x27 ≤ ((strC1.size : Nat) : Int) then
      k33 (ByteArray.extract strC1 (Int.toNat p25) (Int.toNat x27))
    else
      none)
   (
    let x29 : Int := IntKind.wrap .i64 (p25 * (2 : Int))
    let x31 : Int := IntKind.wrap .i64 ((IntKind.wrap .i64 (p25 * (2 : Int))) + (2 : Int))
    if 0 ≤ x29 ∧ x29 ≤ x31 ∧ x31 ≤ ((strC2.size : Nat) : Int) then
      k33 (ByteArray.extract strC2 (Int.toNat x29) (Int.toNat x31))
    else
      none)
def g126 {α : Type} (m : Nat) : S_g126 α :=
  g126b
def g126tp : List TP := [(.vl (.sv (.int .i64)))]
def g126bp : List BP := []
def g126K {α : Type} (G : S_g126 α) (ls : List Lf) (k : KRe α) : Option α :=
  G (lf ls 0).int
    (fun y0 => k (.vl (.sv (.str y0))) [] [])
def g126R {α : Type} (G : S_g126 α) := rowK g126tp g126bp (g126K G)
def g126hd   : Hd where
  call := fun f args Bs k => none
  loop := fun id st k => none
  ro := fun f => []
def g126h (m : Nat) : Hd := g126hd
theorem g126Main   {α : Type} (ls : List Lf) (k : KRe α) :
    g126K (g126b) ls k = evFun tab (g126hd) Go.Proofs.Tryd.f126 (fillT g126tp ls).1 (fillB g126bp (fillT g126tp ls).2).1 k := by kernel_rfl
theorem g126Calls (m : Nat) : (g126h m).CallsOk Go.Proofs.Tryd.prog := cok_nil
theorem g126Fn (m : Nat) : FnOk Go.Proofs.Tryd.prog 126 g126tp g126bp (fun {α} => g126K (g126 m (α := α))) :=
  fn_ok (tab := tab) (h := g126h m) (fn := Go.Proofs.Tryd.f126) (F := fun {α} => g126K (g126 m (α := α))) tabOk (g126Calls m) mixed (by kernel_rfl) (by kernel_rfl) (fun c hc => by
    rw [bodyOf_some hc]
    exact loopsOk_of _ (fun p hp => by rw [show loopsOf (bodyOf Go.Proofs.Tryd.f126) = [] by kernel_rfl] at hp; cases hp))
    (fun α ls k => g126Main ls k)
theorem g126Ok (m : Nat) : RowOk Go.Proofs.Tryd.prog 126 (fun {α} => g126R (g126 m (α := α))) := row_of (g126Fn m)
abbrev S_g69 (α : Type) : Type := ByteArray → Int → (Ty0 → Option α) → Option α
abbrev S_g69l0 (α : Type) : Type := ByteArray → Int → (Int → Ty0 → Option α) → Int → Int → Ty0 → Option α
def g69l0b {α : Type}   (z39 : ByteArray) (v40 : Int) (k52 : Int → Ty0 → Option α) (r53 : Int → Int → Ty0 → Option α) (v41 : Int) (v42 : Int) (a43 : Ty0) : Option α :=
  cond (decide (v42 < ((z39.size : Nat) : Int)))
   (
    if 0 ≤ v42 ∧ v42 < z39.size then
      cond ((byteAt z39 v42.toNat) == v40)
       (
        if 0 ≤ v41 ∧ v41 ≤ v42 ∧ v42 ≤ ((z39.size : Nat) : Int) then
        if a43.length + 1 ≤ 67108864 then
        r53 (IntKind.wrap .i64 (v42 + (1 : Int))) (IntKind.wrap .i64 (v42 + (1 : Int))) (a43 ++ [(ByteArray.extract z39 (Int.toNat v41) (Int.toNat v42))])
        else
        none
        else
        none)
       (
        r53 v41 (IntKind.wrap .i64 (v42 + (1 : Int))) a43)
    else
      none)
   (
    k52 v41 a43)
def g69l0 {α : Type}   (z39 : ByteArray) (v40 : Int) (k52 : Int → Ty0 → Option α) : Nat → Int → Int → Ty0 → Option α
  | 0 => fun _ _ _ => none
  | m + 1 => fun v41 v42 a43 => g69l0b z39 v40 k52 (g69l0 z39 v40 k52 m) v41 v42 a43
def g69l0M {α : Type} (m : Nat) : S_g69l0 α :=
  fun z39 v40 k52 v41 v42 a43 => g69l0 z39 v40 k52 m v41 v42 a43
def g69l0D : LoopD := { n := 35, low := [], sl := [0, 1, 5, 6, 7], bl := [1000000], tp := [(.vl (.sv .str)), (.vl (.sv (.int .u8))), (.vl (.sv (.gsl 1000000 1))), (.vl (.sv (.int .i64))), (.vl (.sv (.int .i64)))], bp := [(true, [(.gro .str)])], xs := [(2, [0, 5, 6])] }
def g69l0K {α : Type} (L : S_g69l0 α) (ls : List Lf) (k : KEx α) : Option α :=
  L (lf ls 0).str (lf ls 1).int
    (fun y1 y2 => k .normal (mkSt 35 [0, 5, 6] [(.vl (.sv (.str (lf ls 0).str))), (.vl (.sv (.gsl 1000000 1))), (.vl (.sv (.int .i64 y1)))] [1000000] [(true, [(.gro .str y2)])]))
    (lf ls 2).int (lf ls 3).int ((lf ls 4).lst .str)
def g69b {α : Type}  (L_g69l0 : {α : Type} → S_g69l0 α) (z37 : ByteArray) (p38 : Int) (k58 : Ty0 → Option α) : Option α :=
  L_g69l0 z37 p38
    (fun x54 l55 =>
      if 0 ≤ x54 ∧ x54 ≤ ((z37.size : Nat) : Int) ∧ ((z37.size : Nat) : Int) ≤ ((z37.size : Nat) : Int) then
        if l55.length + 1 ≤ 67108864 then
        k58 (l55 ++ [(ByteArray.extract z37 (Int.toNat x54) (Int.toNat ((z37.size : Nat) : Int)))])
        else
        none
      else
        none)
    (0 : Int) (0 : Int) []
def g69 {α : Type} (m : Nat) : S_g69 α :=
  g69b (g69l0M m)
def g69tp : List TP := [(.vl (.sv .str)), (.vl (.sv (.int .u8)))]
def g69bp : List BP := []
def g69K {α : Type} (G : S_g69 α) (ls : List Lf) (k : KRe α) : Option α :=
  G (lf ls 0).str (lf ls 1).int
    (fun y0 => k (.vl (.sv (.gsl 0 1))) [] [[(.gro .str y0)]])
def g69R {α : Type} (G : S_g69 α) := rowK g69tp g69bp (g69K G)
def g69hd  (L_g69l0 : {α : Type} → S_g69l0 α) : Hd where
  call := fun f args Bs k => none
  loop := fun id st k => cond (Nat.beq id 0) (loopH g69l0D (g69l0K L_g69l0) st k) (none)
  ro := fun f => []
def g69h (m : Nat) : Hd := g69hd (g69l0M m)
theorem g69l0Step  (L_g69l0 : {α : Type} → S_g69l0 α) {α : Type} (L : S_g69l0 α) (ls : List Lf) (k : KEx α) :
    g69l0K (fun z39 v40 k52 v41 v42 a43 => g69l0b z39 v40 k52 (L z39 v40 k52) v41 v42 a43) ls k = ev tab (g69hd L_g69l0) (bodyAt Go.Proofs.Tryd.f69 0) (atHead g69l0D ls) (loopK g69l0D 0 (loopH g69l0D (g69l0K L)) k) := by kernel_rfl
theorem g69Main  (L_g69l0 : {α : Type} → S_g69l0 α) {α : Type} (ls : List Lf) (k : KRe α) :
    g69K (g69b L_g69l0) ls k = evFun tab (g69hd L_g69l0) Go.Proofs.Tryd.f69 (fillT g69tp ls).1 (fillB g69bp (fillT g69tp ls).2).1 k := by kernel_rfl
theorem g69Calls (m : Nat) : (g69h m).CallsOk Go.Proofs.Tryd.prog := cok_nil
theorem g69l0Ok (m : Nat) (α : Type) (st : St) (k : KEx α) (r : α) (h : (g69h m).loop 0 st k = some r) :
    LoopS Go.Proofs.Tryd.prog 0 (bodyAt Go.Proofs.Tryd.f69 0) st k r :=
  loop_ok (tab := tab) (h := g69h m) (F := fun n ls k => g69l0K (fun z39 v40 k52 v41 v42 a43 => g69l0 z39 v40 k52 n v41 v42 a43) ls k) tabOk (g69Calls m) mixed (loopsOk_of _ (fun p hp => by rw [show loopsOf (bodyAt Go.Proofs.Tryd.f69 0) = [] by kernel_rfl] at hp; cases hp))
    (fun _ _ => rfl) (fun n ls k => g69l0Step (g69l0M m) (fun z39 v40 k52 => g69l0 z39 v40 k52 n) ls k) (n := m) h
theorem g69Fn (m : Nat) : FnOk Go.Proofs.Tryd.prog 69 g69tp g69bp (fun {α} => g69K (g69 m (α := α))) :=
  fn_ok (tab := tab) (h := g69h m) (fn := Go.Proofs.Tryd.f69) (F := fun {α} => g69K (g69 m (α := α))) tabOk (g69Calls m) mixed (by kernel_rfl) (by kernel_rfl) (fun c hc => by
    rw [bodyOf_some hc]
    exact loopsOk_of _ (fun p hp => by
    rw [show loopsOf (bodyOf Go.Proofs.Tryd.f69) = [(0, bodyAt Go.Proofs.Tryd.f69 0)] by kernel_rfl] at hp
    simp only [List.mem_cons, List.not_mem_nil, or_false] at hp
    rcases hp with rfl
    exact g69l0Ok m))
    (fun α ls k => g69Main (g69l0M m) ls k)
theorem g69Ok (m : Nat) : RowOk Go.Proofs.Tryd.prog 69 (fun {α} => g69R (g69 m (α := α))) := row_of (g69Fn m)
abbrev S_g103 (α : Type) : Type := (Ty0 → Option α) → Option α
def g103b {α : Type}    (k74 : Ty0 → Option α) : Option α :=
  k74 ([(⟨#[]⟩ : ByteArray), (⟨#[114, 97, 116, 105, 111]⟩ : ByteArray), (⟨#[115, 117, 109]⟩ : ByteArray), (⟨#[100, 105, 102, 102]⟩ : ByteArray), (⟨#[112, 114, 111, 100, 117, 99, 116]⟩ : ByteArray), (⟨#[113, 117, 111, 116, 105, 101, 110, 116]⟩ : ByteArray), (⟨#[110, 101, 103]⟩ : ByteArray), (⟨#[97, 98, 115]⟩ : ByteArray), (⟨#[109, 105, 110]⟩ : ByteArray), (⟨#[109, 97, 120]⟩ : ByteArray), (⟨#[114, 111, 111, 116]⟩ : ByteArray), (⟨#[112, 105]⟩ : ByteArray), (⟨#[101, 117, 108, 101, 114]⟩ : ByteArray)])
def g103 {α : Type} (m : Nat) : S_g103 α :=
  g103b
def g103tp : List TP := []
def g103bp : List BP := []
def g103K {α : Type} (G : S_g103 α) (ls : List Lf) (k : KRe α) : Option α :=
  G 
    (fun y3 => k (.vl (.sv (.slc 0 0 1 0 13 13))) [] [[(.seq .str 13 y3)]])
def g103R {α : Type} (G : S_g103 α) := rowK g103tp g103bp (g103K G)
def g103hd   : Hd where
  call := fun f args Bs k => none
  loop := fun id st k => none
  ro := fun f => []
def g103h (m : Nat) : Hd := g103hd
theorem g103Main   {α : Type} (ls : List Lf) (k : KRe α) :
    g103K (g103b) ls k = evFun tab (g103hd) Go.Proofs.Tryd.f103 (fillT g103tp ls).1 (fillB g103bp (fillT g103tp ls).2).1 k := by kernel_rfl
theorem g103Calls (m : Nat) : (g103h m).CallsOk Go.Proofs.Tryd.prog := cok_nil
theorem g103Fn (m : Nat) : FnOk Go.Proofs.Tryd.prog 103 g103tp g103bp (fun {α} => g103K (g103 m (α := α))) :=
  fn_ok (tab := tab) (h := g103h m) (fn := Go.Proofs.Tryd.f103) (F := fun {α} => g103K (g103 m (α := α))) tabOk (g103Calls m) mixed (by kernel_rfl) (by kernel_rfl) (fun c hc => by
    rw [bodyOf_some hc]
    exact loopsOk_of _ (fun p hp => by rw [show loopsOf (bodyOf Go.Proofs.Tryd.f103) = [] by kernel_rfl] at hp; cases hp))
    (fun α ls k => g103Main ls k)
theorem g103Ok (m : Nat) : RowOk Go.Proofs.Tryd.prog 103 (fun {α} => g103R (g103 m (α := α))) := row_of (g103Fn m)
abbrev S_g120 (α : Type) : Type := ByteArray → (Int → Bool → Option α) → Option α
abbrev S_g120l0 (α : Type) : Type := ByteArray → (Option α) → (Int → Option α) → Int → Int → Option α
def g120l0b {α : Type}   (z121 : ByteArray) (k135 : Option α) (k136 : Int → Option α) (r137 : Int → Int → Option α) (v122 : Int) (v123 : Int) : Option α :=
  cond (decide (v123 < ((z121.size : Nat) : Int)))
   (
    if 0 ≤ v123 ∧ v123 < z121.size then
      cond (decide ((byteAt z121 v123.toNat) < (48 : Int)))
       (
        k135)
       (
        if 0 ≤ v123 ∧ v123 < z121.size then
        cond (decide ((byteAt z121 v123.toNat) > (57 : Int)))
        (
        k135)
        (
        if 0 ≤ v123 ∧ v123 < z121.size then
        r137 (IntKind.wrap .i64 ((IntKind.wrap .i64 ((10 : Int) * v122)) + (IntKind.wrap .i64 (IntKind.wrap .u8 ((byteAt z121 v123.toNat) - (48 : Int)))))) (IntKind.wrap .i64 (v123 + (1 : Int)))
        else
        none)
        else
        none)
    else
      none)
   (
    k136 v122)
def g120l0 {α : Type}   (z121 : ByteArray) (k135 : Option α) (k136 : Int → Option α) : Nat → Int → Int → Option α
  | 0 => fun _ _ => none
  | m + 1 => fun v122 v123 => g120l0b z121 k135 k136 (g120l0 z121 k135 k136 m) v122 v123
def g120l0M {α : Type} (m : Nat) : S_g120l0 α :=
  fun z121 k135 k136 v122 v123 => g120l0 z121 k135 k136 m v122 v123
def g120l0D : LoopD := { n := 48, low := [], sl := [0, 4, 5], bl := [], tp := [(.vl (.sv .str)), (.vl (.sv (.int .i64))), (.vl (.sv (.int .i64)))], bp := [], xs := [(1, [2, 3]), (2, [4])] }
def g120l0K {α : Type} (L : S_g120l0 α) (ls : List Lf) (k : KEx α) : Option α :=
  L (lf ls 0).str
    (k .ret (mkSt 48 [2, 3] [(.vl (.sv (.int .i64 (0 : Int)))), (.vl (.sv (.bool false)))] [] []))
    (fun y0 => k .normal (mkSt 48 [4] [(.vl (.sv (.int .i64 y0)))] [] []))
    (lf ls 1).int (lf ls 2).int
def g120b {α : Type}  (L_g120l0 : {α : Type} → S_g120l0 α) (z115 : ByteArray) (k140 : Int → Bool → Option α) : Option α :=
  cond (bytesEq z115 (⟨#[]⟩ : ByteArray))
   (
    k140 (0 : Int) false)
   (
    cond (decide (((z115.size : Nat) : Int) > (10 : Int)))
     (
      k140 (0 : Int) false)
     (
      if 0 ≤ (0 : Int) ∧ (0 : Int) < z115.size then
        cond ((byteAt z115 (0 : Int).toNat) == (48 : Int))
        (
        cond (decide (((z115.size : Nat) : Int) > (1 : Int)))
        (
        k140 (0 : Int) false)
        (
        L_g120l0 z115
        (
        k140 (0 : Int) false)
        (fun x138 =>
        k140 x138 true)
        (0 : Int) (0 : Int)))
        (
        L_g120l0 z115
        (
        k140 (0 : Int) false)
        (fun x139 =>
        k140 x139 true)
        (0 : Int) (0 : Int))
      else
        none))
def g120 {α : Type} (m : Nat) : S_g120 α :=
  g120b (g120l0M m)
def g120tp : List TP := [(.vl (.sv .str))]
def g120bp : List BP := []
def g120K {α : Type} (G : S_g120 α) (ls : List Lf) (k : KRe α) : Option α :=
  G (lf ls 0).str
    (fun y0 y1 => k (.tup [(.sv (.int .i64 y0)), (.sv (.bool y1))]) [] [])
def g120R {α : Type} (G : S_g120 α) := rowK g120tp g120bp (g120K G)
def g120hd  (L_g120l0 : {α : Type} → S_g120l0 α) : Hd where
  call := fun f args Bs k => none
  loop := fun id st k => cond (Nat.beq id 0) (loopH g120l0D (g120l0K L_g120l0) st k) (none)
  ro := fun f => []
def g120h (m : Nat) : Hd := g120hd (g120l0M m)
theorem g120l0Step  (L_g120l0 : {α : Type} → S_g120l0 α) {α : Type} (L : S_g120l0 α) (ls : List Lf) (k : KEx α) :
    g120l0K (fun z121 k135 k136 v122 v123 => g120l0b z121 k135 k136 (L z121 k135 k136) v122 v123) ls k = ev tab (g120hd L_g120l0) (bodyAt Go.Proofs.Tryd.f120 0) (atHead g120l0D ls) (loopK g120l0D 0 (loopH g120l0D (g120l0K L)) k) := by kernel_rfl
theorem g120Main  (L_g120l0 : {α : Type} → S_g120l0 α) {α : Type} (ls : List Lf) (k : KRe α) :
    g120K (g120b L_g120l0) ls k = evFun tab (g120hd L_g120l0) Go.Proofs.Tryd.f120 (fillT g120tp ls).1 (fillB g120bp (fillT g120tp ls).2).1 k := by kernel_rfl
theorem g120Calls (m : Nat) : (g120h m).CallsOk Go.Proofs.Tryd.prog := cok_nil
theorem g120l0Ok (m : Nat) (α : Type) (st : St) (k : KEx α) (r : α) (h : (g120h m).loop 0 st k = some r) :
    LoopS Go.Proofs.Tryd.prog 0 (bodyAt Go.Proofs.Tryd.f120 0) st k r :=
  loop_ok (tab := tab) (h := g120h m) (F := fun n ls k => g120l0K (fun z121 k135 k136 v122 v123 => g120l0 z121 k135 k136 n v122 v123) ls k) tabOk (g120Calls m) mixed (loopsOk_of _ (fun p hp => by rw [show loopsOf (bodyAt Go.Proofs.Tryd.f120 0) = [] by kernel_rfl] at hp; cases hp))
    (fun _ _ => rfl) (fun n ls k => g120l0Step (g120l0M m) (fun z121 k135 k136 => g120l0 z121 k135 k136 n) ls k) (n := m) h
theorem g120Fn (m : Nat) : FnOk Go.Proofs.Tryd.prog 120 g120tp g120bp (fun {α} => g120K (g120 m (α := α))) :=
  fn_ok (tab := tab) (h := g120h m) (fn := Go.Proofs.Tryd.f120) (F := fun {α} => g120K (g120 m (α := α))) tabOk (g120Calls m) mixed (by kernel_rfl) (by kernel_rfl) (fun c hc => by
    rw [bodyOf_some hc]
    exact loopsOk_of _ (fun p hp => by
    rw [show loopsOf (bodyOf Go.Proofs.Tryd.f120) = [(0, bodyAt Go.Proofs.Tryd.f120 0)] by kernel_rfl] at hp
    simp only [List.mem_cons, List.not_mem_nil, or_false] at hp
    rcases hp with rfl
    exact g120l0Ok m))
    (fun α ls k => g120Main (g120l0M m) ls k)
theorem g120Ok (m : Nat) : RowOk Go.Proofs.Tryd.prog 120 (fun {α} => g120R (g120 m (α := α))) := row_of (g120Fn m)
abbrev S_g104 (α : Type) : Type := ByteArray → (Int → Bool → Option α) → Option α
def g104b {α : Type} (G_g120 : {α : Type} → S_g120 α)  (z110 : ByteArray) (k149 : Int → Bool → Option α) : Option α :=
  cond (!bytesEq z110 (⟨#[]⟩ : ByteArray))
   (
    if 0 ≤ (0 : Int) ∧ (0 : Int) < z110.size then
      cond ((byteAt z110 (0 : Int).toNat) == (45 : Int))
       (
        if 0 ≤ (1 : Int) ∧ (1 : Int) ≤ ((z110.size : Nat) : Int) ∧ ((z110.size : Nat) : Int) ≤ ((z110.size : Nat) : Int) then
        G_g120 (ByteArray.extract z110 1 (Int.toNat ((z110.size : Nat) : Int)))
        (fun x141 b142 =>
        let x143 : Int := IntKind.wrap .i64 (0 - x141)
        cond b142
        (
        k149 x143 (decide (x141 > (0 : Int))))
        (
        k149 x143 false))
        else
        none)
       (
        G_g120 z110
        (fun x145 b146 =>
        k149 x145 b146))
    else
      none)
   (
    G_g120 z110
      (fun x147 b148 =>
        k149 x147 b148))
def g104 {α : Type} (m : Nat) : S_g104 α :=
  g104b (g120 m)
def g104tp : List TP := [(.vl (.sv .str))]
def g104bp : List BP := []
def g104K {α : Type} (G : S_g104 α) (ls : List Lf) (k : KRe α) : Option α :=
  G (lf ls 0).str
    (fun y0 y1 => k (.tup [(.sv (.int .i64 y0)), (.sv (.bool y1))]) [] [])
def g104R {α : Type} (G : S_g104 α) := rowK g104tp g104bp (g104K G)
def g104hd (G_g120 : {α : Type} → S_g120 α)  : Hd where
  call := fun f args Bs k => cond (Nat.beq f 120) (g120R G_g120 args Bs k) (none)
  loop := fun id st k => none
  ro := fun f => []
def g104h (m : Nat) : Hd := g104hd (g120 m)
theorem g104Main (G_g120 : {α : Type} → S_g120 α)  {α : Type} (ls : List Lf) (k : KRe α) :
    g104K (g104b G_g120) ls k = evFun tab (g104hd G_g120) Go.Proofs.Tryd.f104 (fillT g104tp ls).1 (fillB g104bp (fillT g104tp ls).2).1 k := by kernel_rfl
theorem g104Calls (m : Nat) : (g104h m).CallsOk Go.Proofs.Tryd.prog := (cok_cons (g120Ok m) cok_nil)
theorem g104Fn (m : Nat) : FnOk Go.Proofs.Tryd.prog 104 g104tp g104bp (fun {α} => g104K (g104 m (α := α))) :=
  fn_ok (tab := tab) (h := g104h m) (fn := Go.Proofs.Tryd.f104) (F := fun {α} => g104K (g104 m (α := α))) tabOk (g104Calls m) mixed (by kernel_rfl) (by kernel_rfl) (fun c hc => by
    rw [bodyOf_some hc]
    exact loopsOk_of _ (fun p hp => by rw [show loopsOf (bodyOf Go.Proofs.Tryd.f104) = [] by kernel_rfl] at hp; cases hp))
    (fun α ls k => g104Main (g120 m) ls k)
theorem g104Ok (m : Nat) : RowOk Go.Proofs.Tryd.prog 104 (fun {α} => g104R (g104 m (α := α))) := row_of (g104Fn m)
abbrev S_g105 (α : Type) : Type := Int → (Bool → Option α) → Option α
def g105b {α : Type}   (p171 : Int) (k175 : Bool → Option α) : Option α :=
  cond (p171 == (6 : Int))
   (
    k175 true)
   (
    cond (p171 == (7 : Int))
     (
      k175 true)
     (
      k175 (p171 == (10 : Int))))
def g105 {α : Type} (m : Nat) : S_g105 α :=
  g105b
def g105tp : List TP := [(.vl (.sv (.int .i8)))]
def g105bp : List BP := []
def g105K {α : Type} (G : S_g105 α) (ls : List Lf) (k : KRe α) : Option α :=
  G (lf ls 0).int
    (fun y0 => k (.vl (.sv (.bool y0))) [] [])
def g105R {α : Type} (G : S_g105 α) := rowK g105tp g105bp (g105K G)
def g105hd   : Hd where
  call := fun f args Bs k => none
  loop := fun id st k => none
  ro := fun f => []
def g105h (m : Nat) : Hd := g105hd
theorem g105Main   {α : Type} (ls : List Lf) (k : KRe α) :
    g105K (g105b) ls k = evFun tab (g105hd) Go.Proofs.Tryd.f105 (fillT g105tp ls).1 (fillB g105bp (fillT g105tp ls).2).1 k := by kernel_rfl
theorem g105Calls (m : Nat) : (g105h m).CallsOk Go.Proofs.Tryd.prog := cok_nil
theorem g105Fn (m : Nat) : FnOk Go.Proofs.Tryd.prog 105 g105tp g105bp (fun {α} => g105K (g105 m (α := α))) :=
  fn_ok (tab := tab) (h := g105h m) (fn := Go.Proofs.Tryd.f105) (F := fun {α} => g105K (g105 m (α := α))) tabOk (g105Calls m) mixed (by kernel_rfl) (by kernel_rfl) (fun c hc => by
    rw [bodyOf_some hc]
    exact loopsOk_of _ (fun p hp => by rw [show loopsOf (bodyOf Go.Proofs.Tryd.f105) = [] by kernel_rfl] at hp; cases hp))
    (fun α ls k => g105Main ls k)
theorem g105Ok (m : Nat) : RowOk Go.Proofs.Tryd.prog 105 (fun {α} => g105R (g105 m (α := α))) := row_of (g105Fn m)
abbrev S_g76 (α : Type) : Type := Int → Int → Int → (Bool → Option α) → Option α
def g76b {α : Type}   (p179 : Int) (p180 : Int) (p181 : Int) (k184 : Bool → Option α) : Option α :=
  cond (decide (p179 ≥ p180))
   (
    k184 (decide (p179 ≤ p181)))
   (
    k184 false)
def g76 {α : Type} (m : Nat) : S_g76 α :=
  g76b
def g76tp : List TP := [(.vl (.sv (.int .i64))), (.vl (.sv (.int .i64))), (.vl (.sv (.int .i64)))]
def g76bp : List BP := []
def g76K {α : Type} (G : S_g76 α) (ls : List Lf) (k : KRe α) : Option α :=
  G (lf ls 0).int (lf ls 1).int (lf ls 2).int
    (fun y0 => k (.vl (.sv (.bool y0))) [] [])
def g76R {α : Type} (G : S_g76 α) := rowK g76tp g76bp (g76K G)
def g76hd   : Hd where
  call := fun f args Bs k => none
  loop := fun id st k => none
  ro := fun f => []
def g76h (m : Nat) : Hd := g76hd
theorem g76Main   {α : Type} (ls : List Lf) (k : KRe α) :
    g76K (g76b) ls k = evFun tab (g76hd) Go.Proofs.Tryd.f76 (fillT g76tp ls).1 (fillB g76bp (fillT g76tp ls).2).1 k := by kernel_rfl
theorem g76Calls (m : Nat) : (g76h m).CallsOk Go.Proofs.Tryd.prog := cok_nil
theorem g76Fn (m : Nat) : FnOk Go.Proofs.Tryd.prog 76 g76tp g76bp (fun {α} => g76K (g76 m (α := α))) :=
  fn_ok (tab := tab) (h := g76h m) (fn := Go.Proofs.Tryd.f76) (F := fun {α} => g76K (g76 m (α := α))) tabOk (g76Calls m) mixed (by kernel_rfl) (by kernel_rfl) (fun c hc => by
    rw [bodyOf_some hc]
    exact loopsOk_of _ (fun p hp => by rw [show loopsOf (bodyOf Go.Proofs.Tryd.f76) = [] by kernel_rfl] at hp; cases hp))
    (fun α ls k => g76Main ls k)
theorem g76Ok (m : Nat) : RowOk Go.Proofs.Tryd.prog 76 (fun {α} => g76R (g76 m (α := α))) := row_of (g76Fn m)
abbrev S_g106 (α : Type) : Type := Int → (Bool → Option α) → Option α
def g106b {α : Type}   (p189 : Int) (k196 : Bool → Option α) : Option α :=
  cond (decide (p189 ≥ (2 : Int)))
   (
    cond (decide (p189 ≤ (5 : Int)))
     (
      k196 true)
     (
      cond (p189 == (8 : Int))
       (
        k196 true)
       (
        k196 (p189 == (9 : Int)))))
   (
    cond (p189 == (8 : Int))
     (
      k196 true)
     (
      k196 (p189 == (9 : Int))))
def g106 {α : Type} (m : Nat) : S_g106 α :=
  g106b
def g106tp : List TP := [(.vl (.sv (.int .i8)))]
def g106bp : List BP := []
def g106K {α : Type} (G : S_g106 α) (ls : List Lf) (k : KRe α) : Option α :=
  G (lf ls 0).int
    (fun y0 => k (.vl (.sv (.bool y0))) [] [])
def g106R {α : Type} (G : S_g106 α) := rowK g106tp g106bp (g106K G)
def g106hd   : Hd where
  call := fun f args Bs k => none
  loop := fun id st k => none
  ro := fun f => []
def g106h (m : Nat) : Hd := g106hd
theorem g106Main   {α : Type} (ls : List Lf) (k : KRe α) :
    g106K (g106b) ls k = evFun tab (g106hd) Go.Proofs.Tryd.f106 (fillT g106tp ls).1 (fillB g106bp (fillT g106tp ls).2).1 k := by kernel_rfl
theorem g106Calls (m : Nat) : (g106h m).CallsOk Go.Proofs.Tryd.prog := cok_nil
theorem g106Fn (m : Nat) : FnOk Go.Proofs.Tryd.prog 106 g106tp g106bp (fun {α} => g106K (g106 m (α := α))) :=
  fn_ok (tab := tab) (h := g106h m) (fn := Go.Proofs.Tryd.f106) (F := fun {α} => g106K (g106 m (α := α))) tabOk (g106Calls m) mixed (by kernel_rfl) (by kernel_rfl) (fun c hc => by
    rw [bodyOf_some hc]
    exact loopsOk_of _ (fun p hp => by rw [show loopsOf (bodyOf Go.Proofs.Tryd.f106) = [] by kernel_rfl] at hp; cases hp))
    (fun α ls k => g106Main ls k)
theorem g106Ok (m : Nat) : RowOk Go.Proofs.Tryd.prog 106 (fun {α} => g106R (g106 m (α := α))) := row_of (g106Fn m)
abbrev S_g77 (α : Type) : Type := Int → Int → Int → Int → Int → Int → (Bool → Option α) → Option α
def g77b {α : Type} (G_g105 : {α : Type} → S_g105 α) (G_g76 : {α : Type} → S_g76 α) (G_g106 : {α : Type} → S_g106 α)  (p163 : Int) (p164 : Int) (p165 : Int) (p166 : Int) (p167 : Int) (p168 : Int) (k221 : Bool → Option α) : Option α :=
  cond (decide (p164 < (1 : Int)))
   (
    k221 false)
   (
    cond (decide (p164 > (12 : Int)))
     (
      k221 false)
     (
      G_g105 p164
        (fun b176 =>
        cond b176
        (
        G_g76 (IntKind.wrap .i64 p165) (0 : Int) (IntKind.wrap .i64 (p163 - (1 : Int)))
        (fun b185 =>
        cond (!b185)
        (
        k221 false)
        (
        cond (p167 != (0 : Int))
        (
        k221 false)
        (
        cond (p168 != (0 : Int))
        (
        k221 false)
        (
        G_g106 p164
        (fun b197 =>
        cond b197
        (
        G_g76 (IntKind.wrap .i64 p166) (0 : Int) (IntKind.wrap .i64 (p163 - (1 : Int)))
        (fun b200 =>
        k221 b200))
        (
        k221 (p166 == (0 : Int)))))))))
        (
        G_g106 p164
        (fun b202 =>
        cond b202
        (
        G_g76 (IntKind.wrap .i64 p165) (0 : Int) (IntKind.wrap .i64 (p163 - (1 : Int)))
        (fun b205 =>
        cond (!b205)
        (
        k221 false)
        (
        cond (p167 != (0 : Int))
        (
        k221 false)
        (
        cond (p168 != (0 : Int))
        (
        k221 false)
        (
        G_g106 p164
        (fun b209 =>
        cond b209
        (
        G_g76 (IntKind.wrap .i64 p166) (0 : Int) (IntKind.wrap .i64 (p163 - (1 : Int)))
        (fun b212 =>
        k221 b212))
        (
        k221 (p166 == (0 : Int)))))))))
        (
        cond (p165 != (0 : Int))
        (
        k221 false)
        (
        cond (p166 != (0 : Int))
        (
        k221 false)
        (
        cond (p164 == (1 : Int))
        (
        G_g76 p167 (-1000000000 : Int) (1000000000 : Int)
        (fun b217 =>
        cond b217
        (
        G_g76 p168 (1 : Int) (1000000000 : Int)
        (fun b218 =>
        k221 b218))
        (
        k221 false)))
        (
        cond (p167 == (0 : Int))
        (
        k221 (p168 == (0 : Int)))
        (
        k221 false))))))))))
def g77 {α : Type} (m : Nat) : S_g77 α :=
  g77b (g105 m) (g76 m) (g106 m)
def g77tp : List TP := [(.vl (.sv (.ptr 0 0))), (.vl (.sv (.int .i64)))]
def g77bp : List BP := [(false, [(.one (.int .i8)), (.one (.int .i16)), (.one (.int .i16)), (.one (.int .i64)), (.one (.int .i64))])]
def g77K {α : Type} (G : S_g77 α) (ls : List Lf) (k : KRe α) : Option α :=
  G (lf ls 0).int (lf ls 1).int (lf ls 2).int (lf ls 3).int (lf ls 4).int (lf ls 5).int
    (fun y0 => k (.vl (.sv (.bool y0))) [[(.one (.int .i8 (lf ls 1).int)), (.one (.int .i16 (lf ls 2).int)), (.one (.int .i16 (lf ls 3).int)), (.one (.int .i64 (lf ls 4).int)), (.one (.int .i64 (lf ls 5).int))]] [])
def g77R {α : Type} (G : S_g77 α) := rowK g77tp g77bp (g77K G)
def g77hd (G_g105 : {α : Type} → S_g105 α) (G_g76 : {α : Type} → S_g76 α) (G_g106 : {α : Type} → S_g106 α)  : Hd where
  call := fun f args Bs k => cond (Nat.beq f 105) (g105R G_g105 args Bs k) (cond (Nat.beq f 76) (g76R G_g76 args Bs k) (cond (Nat.beq f 106) (g106R G_g106 args Bs k) (none)))
  loop := fun id st k => none
  ro := fun f => []
def g77h (m : Nat) : Hd := g77hd (g105 m) (g76 m) (g106 m)
theorem g77Main (G_g105 : {α : Type} → S_g105 α) (G_g76 : {α : Type} → S_g76 α) (G_g106 : {α : Type} → S_g106 α)  {α : Type} (ls : List Lf) (k : KRe α) :
    g77K (g77b G_g105 G_g76 G_g106) ls k = evFun tab (g77hd G_g105 G_g76 G_g106) Go.Proofs.Tryd.f77 (fillT g77tp ls).1 (fillB g77bp (fillT g77tp ls).2).1 k := by kernel_rfl
theorem g77Calls (m : Nat) : (g77h m).CallsOk Go.Proofs.Tryd.prog := (cok_cons (g105Ok m) (cok_cons (g76Ok m) (cok_cons (g106Ok m) cok_nil)))
theorem g77Fn (m : Nat) : FnOk Go.Proofs.Tryd.prog 77 g77tp g77bp (fun {α} => g77K (g77 m (α := α))) :=
  fn_ok (tab := tab) (h := g77h m) (fn := Go.Proofs.Tryd.f77) (F := fun {α} => g77K (g77 m (α := α))) tabOk (g77Calls m) mixed (by kernel_rfl) (by kernel_rfl) (fun c hc => by
    rw [bodyOf_some hc]
    exact loopsOk_of _ (fun p hp => by rw [show loopsOf (bodyOf Go.Proofs.Tryd.f77) = [] by kernel_rfl] at hp; cases hp))
    (fun α ls k => g77Main (g105 m) (g76 m) (g106 m) ls k)
theorem g77Ok (m : Nat) : RowOk Go.Proofs.Tryd.prog 77 (fun {α} => g77R (g77 m (α := α))) := row_of (g77Fn m)
abbrev S_g70 (α : Type) : Type := ByteArray → Int → (Int → Int → Int → Int → Int → Bool → Option α) → Option α
abbrev S_g70l2 (α : Type) : Type := Int → Int → Int → Int → Int → Int → Int → Ty0 → Int → Int → Int → Int → Int → (Option α) → ((List Int) → Option α) → Int → (List Int) → Option α
def g70l2b {α : Type} (G_g104 : {α : Type} → S_g104 α)  (v93 : Int) (v94 : Int) (v96 : Int) (v97 : Int) (v98 : Int) (v99 : Int) (v100 : Int) (a101 : Ty0) (v102 : Int) (v103 : Int) (v104 : Int) (v105 : Int) (v106 : Int) (k155 : Option α) (k156 : (List Int) → Option α) (r157 : Int → (List Int) → Option α) (v95 : Int) (a107 : List Int) : Option α :=
  cond (decide (v95 < ((a101.length : Nat) : Int)))
   (
    if 0 ≤ v95 ∧ v95 < (a101.length : Nat) then
      if v95.toNat < a101.length then
        G_g104 (List.getD a101 v95.toNat ⟨#[]⟩)
        (fun x150 b151 =>
        cond (!b151)
        (
        k155)
        (
        if a107.length + 1 ≤ 67108864 then
        r157 (IntKind.wrap .i64 (v95 + (1 : Int))) (a107 ++ [x150])
        else
        none))
      else
        none
    else
      none)
   (
    k156 a107)
def g70l2 {α : Type} (G_g104 : {α : Type} → S_g104 α)  (v93 : Int) (v94 : Int) (v96 : Int) (v97 : Int) (v98 : Int) (v99 : Int) (v100 : Int) (a101 : Ty0) (v102 : Int) (v103 : Int) (v104 : Int) (v105 : Int) (v106 : Int) (k155 : Option α) (k156 : (List Int) → Option α) : Nat → Int → (List Int) → Option α
  | 0 => fun _ _ => none
  | m + 1 => fun v95 a107 => g70l2b G_g104 v93 v94 v96 v97 v98 v99 v100 a101 v102 v103 v104 v105 v106 k155 k156 (g70l2 G_g104 v93 v94 v96 v97 v98 v99 v100 a101 v102 v103 v104 v105 v106 k155 k156 m) v95 a107
def g70l2M {α : Type} (m : Nat) : S_g70l2 α :=
  fun v93 v94 v96 v97 v98 v99 v100 a101 v102 v103 v104 v105 v106 k155 k156 v95 a107 => g70l2 (g104 m) v93 v94 v96 v97 v98 v99 v100 a101 v102 v103 v104 v105 v106 k155 k156 m v95 a107
def g70l2D : LoopD := { n := 137, low := [], sl := [1, 4, 6, 8, 9, 10, 11], bl := [1000000, 1000001, 1000002, 1000003], tp := [(.vl (.sv (.int .i64))), (.vl (.sv (.ptr 1000000 0))), (.vl (.sv (.gsl 1000001 1))), (.vl (.sv (.int .i8))), (.vl (.sv (.ptr 1000002 0))), (.vl (.sv (.gsl 1000003 1))), (.vl (.sv (.int .i64)))], bp := [(true, [(.one (.int .i8)), (.one (.int .i16)), (.one (.int .i16)), (.one (.int .i64)), (.one (.int .i64))]), (true, [(.gro .str)]), (true, [(.one (.int .i8)), (.one (.int .i16)), (.one (.int .i16)), (.one (.int .i64)), (.one (.int .i64))]), (true, [(.gro (.int .i64))])], xs := [(1, [4, 5]), (4, [1, 4, 8, 9, 10])] }
def g70l2K {α : Type} (L : S_g70l2 α) (ls : List Lf) (k : KEx α) : Option α :=
  L (lf ls 0).int (lf ls 1).int (lf ls 3).int (lf ls 4).int (lf ls 5).int (lf ls 6).int (lf ls 7).int ((lf ls 8).lst .str) (lf ls 9).int (lf ls 10).int (lf ls 11).int (lf ls 12).int (lf ls 13).int
    (k .ret (mkSt 137 [4, 5] [(.vl (.sv (.ptr 1000000 0))), (.vl (.sv (.bool false)))] [1000000] [(true, [(.one (.int .i8 (0 : Int))), (.one (.int .i16 (0 : Int))), (.one (.int .i16 (0 : Int))), (.one (.int .i64 (0 : Int))), (.one (.int .i64 (0 : Int)))])]))
    (fun y12 => k .normal (mkSt 137 [1, 4, 8, 9, 10] [(.vl (.sv (.int .i64 (lf ls 0).int))), (.vl (.sv (.ptr 1000000 0))), (.vl (.sv (.int .i8 (lf ls 1).int))), (.vl (.sv (.ptr 1000001 0))), (.vl (.sv (.gsl 1000002 1)))] [1000000, 1000001, 1000002] [(true, [(.one (.int .i8 (lf ls 3).int)), (.one (.int .i16 (lf ls 4).int)), (.one (.int .i16 (lf ls 5).int)), (.one (.int .i64 (lf ls 6).int)), (.one (.int .i64 (lf ls 7).int))]), (true, [(.one (.int .i8 (lf ls 9).int)), (.one (.int .i16 (lf ls 10).int)), (.one (.int .i16 (lf ls 11).int)), (.one (.int .i64 (lf ls 12).int)), (.one (.int .i64 (lf ls 13).int))]), (true, [(.gro (.int .i64) y12)])]))
    (lf ls 2).int ((lf ls 14).lst (.int .i64))
abbrev S_g70l0 (α : Type) : Type := Int → Nat → Nat → Nat → Int → Int → Int → Int → Int → Ty0 → Ty0 → (Bool → Int → Int → Int → Int → Int → Option α) → (Option α) → Int → Option α
def g70l0b {α : Type} (G_g104 : {α : Type} → S_g104 α) (G_g77 : {α : Type} → S_g77 α) (G_g105 : {α : Type} → S_g105 α) (G_g76 : {α : Type} → S_g76 α) (G_g106 : {α : Type} → S_g106 α) (L_g70l2 : {α : Type} → S_g70l2 α) (v76 : Int) (m77 : Nat) (m78 : Nat) (m79 : Nat) (v81 : Int) (v82 : Int) (v83 : Int) (v84 : Int) (v85 : Int) (a86 : Ty0) (a87 : Ty0) (k389 : Bool → Int → Int → Int → Int → Int → Option α) (k390 : Option α) (r391 : Int → Option α) (v80 : Int) : Option α :=
  cond (decide (v80 ≤ (12 : Int)))
   (
    if 0 ≤ (0 : Int) ∧ (0 : Int) < (a86.length : Nat) then
      if 0 < a86.length then
        if 0 ≤ v80 ∧ v80 < (m78 : Nat) then
        if (m77 + v80.toNat) < 13 then
        cond (!bytesEq (List.getD a86 0 ⟨#[]⟩) (List.getD a87 (m77 + v80.toNat) ⟨#[]⟩))
        (
        r391 (IntKind.wrap .i8 (v80 + (1 : Int))))
        (
        L_g70l2 v76 v80 v81 v82 v83 v84 v85 a86 v80 (0 : Int) (0 : Int) (0 : Int) (0 : Int)
        (
        k389 false (0 : Int) (0 : Int) (0 : Int) (0 : Int) (0 : Int))
        (fun l158 =>
        cond (v80 == (1 : Int))
        (
        cond (((l158.length : Nat) : Int) == (2 : Int))
        (
        if 0 ≤ (0 : Int) ∧ (0 : Int) < (l158.length : Nat) then
        if 0 < l158.length then
        let x161 : Int := List.getD l158 0 0
        if 0 ≤ (1 : Int) ∧ (1 : Int) < (l158.length : Nat) then
        if 1 < l158.length then
        let x162 : Int := List.getD l158 1 0
        G_g77 v76 v80 (0 : Int) (0 : Int) x161 x162
        (fun b222 =>
        k389 b222 v80 (0 : Int) (0 : Int) x161 x162)
        else
        none
        else
        none
        else
        none
        else
        none)
        (
        G_g105 v80
        (fun b223 =>
        cond b223
        (
        cond (((l158.length : Nat) : Int) == (1 : Int))
        (
        if 0 ≤ (0 : Int) ∧ (0 : Int) < (l158.length : Nat) then
        if 0 < l158.length then
        G_g76 (List.getD l158 0 0) (0 : Int) (IntKind.wrap .i64 (v76 - (1 : Int)))
        (fun b227 =>
        cond b227
        (
        if 0 ≤ (0 : Int) ∧ (0 : Int) < (l158.length : Nat) then
        if 0 < l158.length then
        let x229 : Int := IntKind.wrap .i16 (List.getD l158 0 0)
        G_g77 v76 v80 x229 (0 : Int) (0 : Int) (0 : Int)
        (fun b230 =>
        k389 b230 v80 x229 (0 : Int) (0 : Int) (0 : Int))
        else
        none
        else
        none)
        (
        G_g106 v80
        (fun b231 =>
        cond b231
        (
        cond (((l158.length : Nat) : Int) == (2 : Int))
        (
        if 0 ≤ (0 : Int) ∧ (0 : Int) < (l158.length : Nat) then
        if 0 < l158.length then
        G_g76 (List.getD l158 0 0) (0 : Int) (IntKind.wrap .i64 (v76 - (1 : Int)))
        (fun b235 =>
        cond b235
        (
        if 0 ≤ (1 : Int) ∧ (1 : Int) < (l158.length : Nat) then
        if 1 < l158.length then
        G_g76 (List.getD l158 1 0) (0 : Int) (IntKind.wrap .i64 (v76 - (1 : Int)))
        (fun b238 =>
        cond b238
        (
        if 0 ≤ (0 : Int) ∧ (0 : Int) < (l158.length : Nat) then
        if 0 < l158.length then
        let x240 : Int := IntKind.wrap .i16 (List.getD l158 0 0)
        if 0 ≤ (1 : Int) ∧ (1 : Int) < (l158.length : Nat) then
        if 1 < l158.length then
        let x242 : Int := IntKind.wrap .i16 (List.getD l158 1 0)
        G_g77 v76 v80 x240 x242 (0 : Int) (0 : Int)
        (fun b243 =>
        k389 b243 v80 x240 x242 (0 : Int) (0 : Int))
        else
        none
        else
        none
        else
        none
        else
        none)
        (
        cond (decide (v80 < (11 : Int)))
        (
        k389 false (0 : Int) (0 : Int) (0 : Int) (0 : Int) (0 : Int))
        (
        cond (decide (((l158.length : Nat) : Int) > (0 : Int)))
        (
        k389 false (0 : Int) (0 : Int) (0 : Int) (0 : Int) (0 : Int))
        (
        G_g77 v76 v80 (0 : Int) (0 : Int) (0 : Int) (0 : Int)
        (fun b246 =>
        k389 b246 v80 (0 : Int) (0 : Int) (0 : Int) (0 : Int))))))
        else
        none
        else
        none)
        (
        cond (decide (v80 < (11 : Int)))
        (
        k389 false (0 : Int) (0 : Int) (0 : Int) (0 : Int) (0 : Int))
        (
        cond (decide (((l158.length : Nat) : Int) > (0 : Int)))
        (
        k389 false (0 : Int) (0 : Int) (0 : Int) (0 : Int) (0 : Int))
        (
        G_g77 v76 v80 (0 : Int) (0 : Int) (0 : Int) (0 : Int)
        (fun b249 =>
        k389 b249 v80 (0 : Int) (0 : Int) (0 : Int) (0 : Int))))))
        else
        none
        else
        none)
        (
        cond (decide (v80 < (11 : Int)))
        (
        k389 false (0 : Int) (0 : Int) (0 : Int) (0 : Int) (0 : Int))
        (
        cond (decide (((l158.length : Nat) : Int) > (0 : Int)))
        (
        k389 false (0 : Int) (0 : Int) (0 : Int) (0 : Int) (0 : Int))
        (
        G_g77 v76 v80 (0 : Int) (0 : Int) (0 : Int) (0 : Int)
        (fun b252 =>
        k389 b252 v80 (0 : Int) (0 : Int) (0 : Int) (0 : Int))))))
        (
        cond (decide (v80 < (11 : Int)))
        (
        k389 false (0 : Int) (0 : Int) (0 : Int) (0 : Int) (0 : Int))
        (
        cond (decide (((l158.length : Nat) : Int) > (0 : Int)))
        (
        k389 false (0 : Int) (0 : Int) (0 : Int) (0 : Int) (0 : Int))
        (
        G_g77 v76 v80 (0 : Int) (0 : Int) (0 : Int) (0 : Int)
        (fun b255 =>
        k389 b255 v80 (0 : Int) (0 : Int) (0 : Int) (0 : Int))))))))
        else
        none
        else
        none)
        (
        G_g106 v80
        (fun b256 =>
        cond b256
        (
        cond (((l158.length : Nat) : Int) == (2 : Int))
        (
        if 0 ≤ (0 : Int) ∧ (0 : Int) < (l158.length : Nat) then
        if 0 < l158.length then
        G_g76 (List.getD l158 0 0) (0 : Int) (IntKind.wrap .i64 (v76 - (1 : Int)))
        (fun b260 =>
        cond b260
        (
        if 0 ≤ (1 : Int) ∧ (1 : Int) < (l158.length : Nat) then
        if 1 < l158.length then
        G_g76 (List.getD l158 1 0) (0 : Int) (IntKind.wrap .i64 (v76 - (1 : Int)))
        (fun b263 =>
        cond b263
        (
        if 0 ≤ (0 : Int) ∧ (0 : Int) < (l158.length : Nat) then
        if 0 < l158.length then
        let x265 : Int := IntKind.wrap .i16 (List.getD l158 0 0)
        if 0 ≤ (1 : Int) ∧ (1 : Int) < (l158.length : Nat) then
        if 1 < l158.length then
        let x267 : Int := IntKind.wrap .i16 (List.getD l158 1 0)
        G_g77 v76 v80 x265 x267 (0 : Int) (0 : Int)
        (fun b268 =>
        k389 b268 v80 x265 x267 (0 : Int) (0 : Int))
        else
        none
        else
        none
        else
        none
        else
        none)
        (
        cond (decide (v80 < (11 : Int)))
        (
        k389 false (0 : Int) (0 : Int) (0 : Int) (0 : Int) (0 : Int))
        (
        cond (decide (((l158.length : Nat) : Int) > (0 : Int)))
        (
        k389 false (0 : Int) (0 : Int) (0 : Int) (0 : Int) (0 : Int))
        (
        G_g77 v76 v80 (0 : Int) (0 : Int) (0 : Int) (0 : Int)
        (fun b271 =>
        k389 b271 v80 (0 : Int) (0 : Int) (0 : Int) (0 : Int))))))
        else
        none
        else
        none)
        (
        cond (decide (v80 < (11 : Int)))
        (
        k389 false (0 : Int) (0 : Int) (0 : Int) (0 : Int) (0 : Int))
        (
        cond (decide (((l158.length : Nat) : Int) > (0 : Int)))
        (
        k389 false (0 : Int) (0 : Int) (0 : Int) (0 : Int) (0 : Int))
        (
        G_g77 v76 v80 (0 : Int) (0 : Int) (0 : Int) (0 : Int)
        (fun b274 =>
        k389 b274 v80 (0 : Int) (0 : Int) (0 : Int) (0 : Int))))))
        else
        none
        else
        none)
        (
        cond (decide (v80 < (11 : Int)))
        (
        k389 false (0 : Int) (0 : Int) (0 : Int) (0 : Int) (0 : Int))
        (
        cond (decide (((l158.length : Nat) : Int) > (0 : Int)))
        (
        k389 false (0 : Int) (0 : Int) (0 : Int) (0 : Int) (0 : Int))
        (
        G_g77 v76 v80 (0 : Int) (0 : Int) (0 : Int) (0 : Int)
        (fun b277 =>
        k389 b277 v80 (0 : Int) (0 : Int) (0 : Int) (0 : Int))))))
        (
        cond (decide (v80 < (11 : Int)))
        (
        k389 false (0 : Int) (0 : Int) (0 : Int) (0 : Int) (0 : Int))
        (
        cond (decide (((l158.length : Nat) : Int) > (0 : Int)))
        (
        k389 false (0 : Int) (0 : Int) (0 : Int) (0 : Int) (0 : Int))
        (
        G_g77 v76 v80 (0 : Int) (0 : Int) (0 : Int) (0 : Int)
        (fun b280 =>
        k389 b280 v80 (0 : Int) (0 : Int) (0 : Int) (0 : Int))))))))
        (
        G_g106 v80
        (fun b281 =>
        cond b281
        (
        cond (((l158.length : Nat) : Int) == (2 : Int))
        (
        if 0 ≤ (0 : Int) ∧ (0 : Int) < (l158.length : Nat) then
        if 0 < l158.length then
        G_g76 (List.getD l158 0 0) (0 : Int) (IntKind.wrap .i64 (v76 - (1 : Int)))
        (fun b285 =>
        cond b285
        (
        if 0 ≤ (1 : Int) ∧ (1 : Int) < (l158.length : Nat) then
        if 1 < l158.length then
        G_g76 (List.getD l158 1 0) (0 : Int) (IntKind.wrap .i64 (v76 - (1 : Int)))
        (fun b288 =>
        cond b288
        (
        if 0 ≤ (0 : Int) ∧ (0 : Int) < (l158.length : Nat) then
        if 0 < l158.length then
        let x290 : Int := IntKind.wrap .i16 (List.getD l158 0 0)
        if 0 ≤ (1 : Int) ∧ (1 : Int) < (l158.length : Nat) then
        if 1 < l158.length then
        let x292 : Int := IntKind.wrap .i16 (List.getD l158 1 0)
        G_g77 v76 v80 x290 x292 (0 : Int) (0 : Int)
        (fun b293 =>
        k389 b293 v80 x290 x292 (0 : Int) (0 : Int))
        else
        none
        else
        none
        else
        none
        else
        none)
        (
        cond (decide (v80 < (11 : Int)))
        (
        k389 false (0 : Int) (0 : Int) (0 : Int) (0 : Int) (0 : Int))
        (
        cond (decide (((l158.length : Nat) : Int) > (0 : Int)))
        (
        k389 false (0 : Int) (0 : Int) (0 : Int) (0 : Int) (0 : Int))
        (
        G_g77 v76 v80 (0 : Int) (0 : Int) (0 : Int) (0 : Int)
        (fun b296 =>
        k389 b296 v80 (0 : Int) (0 : Int) (0 : Int) (0 : Int))))))
        else
        none
        else
        none)
        (
        cond (decide (v80 < (11 : Int)))
        (
        k389 false (0 : Int) (0 : Int) (0 : Int) (0 : Int) (0 : Int))
        (
        cond (decide (((l158.length : Nat) : Int) > (0 : Int)))
        (
        k389 false (0 : Int) (0 : Int) (0 : Int) (0 : Int) (0 : Int))
        (
        G_g77 v76 v80 (0 : Int) (0 : Int) (0 : Int) (0 : Int)
        (fun b299 =>
        k389 b299 v80 (0 : Int) (0 : Int) (0 : Int) (0 : Int))))))
        else
        none
        else
        none)
        (
        cond (decide (v80 < (11 : Int)))
        (
        k389 false (0 : Int) (0 : Int) (0 : Int) (0 : Int) (0 : Int))
        (
        cond (decide (((l158.length : Nat) : Int) > (0 : Int)))
        (
        k389 false (0 : Int) (0 : Int) (0 : Int) (0 : Int) (0 : Int))
        (
        G_g77 v76 v80 (0 : Int) (0 : Int) (0 : Int) (0 : Int)
        (fun b302 =>
        k389 b302 v80 (0 : Int) (0 : Int) (0 : Int) (0 : Int))))))
        (
        cond (decide (v80 < (11 : Int)))
        (
        k389 false (0 : Int) (0 : Int) (0 : Int) (0 : Int) (0 : Int))
        (
        cond (decide (((l158.length : Nat) : Int) > (0 : Int)))
        (
        k389 false (0 : Int) (0 : Int) (0 : Int) (0 : Int) (0 : Int))
        (
        G_g77 v76 v80 (0 : Int) (0 : Int) (0 : Int) (0 : Int)
        (fun b305 =>
        k389 b305 v80 (0 : Int) (0 : Int) (0 : Int) (0 : Int))))))))))
        (
        G_g105 v80
        (fun b306 =>
        cond b306
        (
        cond (((l158.length : Nat) : Int) == (1 : Int))
        (
        if 0 ≤ (0 : Int) ∧ (0 : Int) < (l158.length : Nat) then
        if 0 < l158.length then
        G_g76 (List.getD l158 0 0) (0 : Int) (IntKind.wrap .i64 (v76 - (1 : Int)))
        (fun b310 =>
        cond b310
        (
        if 0 ≤ (0 : Int) ∧ (0 : Int) < (l158.length : Nat) then
        if 0 < l158.length then
        let x312 : Int := IntKind.wrap .i16 (List.getD l158 0 0)
        G_g77 v76 v80 x312 (0 : Int) (0 : Int) (0 : Int)
        (fun b313 =>
        k389 b313 v80 x312 (0 : Int) (0 : Int) (0 : Int))
        else
        none
        else
        none)
        (
        G_g106 v80
        (fun b314 =>
        cond b314
        (
        cond (((l158.length : Nat) : Int) == (2 : Int))
        (
        if 0 ≤ (0 : Int) ∧ (0 : Int) < (l158.length : Nat) then
        if 0 < l158.length then
        G_g76 (List.getD l158 0 0) (0 : Int) (IntKind.wrap .i64 (v76 - (1 : Int)))
        (fun b318 =>
        cond b318
        (
        if 0 ≤ (1 : Int) ∧ (1 : Int) < (l158.length : Nat) then
        if 1 < l158.length then
        G_g76 (List.getD l158 1 0) (0 : Int) (IntKind.wrap .i64 (v76 - (1 : Int)))
        (fun b321 =>
        cond b321
        (
        if 0 ≤ (0 : Int) ∧ (0 : Int) < (l158.length : Nat) then
        if 0 < l158.length then
        let x323 : Int := IntKind.wrap .i16 (List.getD l158 0 0)
        if 0 ≤ (1 : Int) ∧ (1 : Int) < (l158.length : Nat) then
        if 1 < l158.length then
        let x325 : Int := IntKind.wrap .i16 (List.getD l158 1 0)
        G_g77 v76 v80 x323 x325 (0 : Int) (0 : Int)
        (fun b326 =>
        k389 b326 v80 x323 x325 (0 : Int) (0 : Int))
        else
        none
        else
        none
        else
        none
        else
        none)
        (
        cond (decide (v80 < (11 : Int)))
        (
        k389 false (0 : Int) (0 : Int) (0 : Int) (0 : Int) (0 : Int))
        (
        cond (decide (((l158.length : Nat) : Int) > (0 : Int)))
        (
        k389 false (0 : Int) (0 : Int) (0 : Int) (0 : Int) (0 : Int))
        (
        G_g77 v76 v80 (0 : Int) (0 : Int) (0 : Int) (0 : Int)
        (fun b329 =>
        k389 b329 v80 (0 : Int) (0 : Int) (0 : Int) (0 : Int))))))
        else
        none
        else
        none)
        (
        cond (decide (v80 < (11 : Int)))
        (
        k389 false (0 : Int) (0 : Int) (0 : Int) (0 : Int) (0 : Int))
        (
        cond (decide (((l158.length : Nat) : Int) > (0 : Int)))
        (
        k389 false (0 : Int) (0 : Int) (0 : Int) (0 : Int) (0 : Int))
        (
        G_g77 v76 v80 (0 : Int) (0 : Int) (0 : Int) (0 : Int)
        (fun b332 =>
        k389 b332 v80 (0 : Int) (0 : Int) (0 : Int) (0 : Int))))))
        else
        none
        else
        none)
        (
        cond (decide (v80 < (11 : Int)))
        (
        k389 false (0 : Int) (0 : Int) (0 : Int) (0 : Int) (0 : Int))
        (
        cond (decide (((l158.length : Nat) : Int) > (0 : Int)))
        (
        k389 false (0 : Int) (0 : Int) (0 : Int) (0 : Int) (0 : Int))
        (
        G_g77 v76 v80 (0 : Int) (0 : Int) (0 : Int) (0 : Int)
        (fun b335 =>
        k389 b335 v80 (0 : Int) (0 : Int) (0 : Int) (0 : Int))))))
        (
        cond (decide (v80 < (11 : Int)))
        (
        k389 false (0 : Int) (0 : Int) (0 : Int) (0 : Int) (0 : Int))
        (
        cond (decide (((l158.length : Nat) : Int) > (0 : Int)))
        (
        k389 false (0 : Int) (0 : Int) (0 : Int) (0 : Int) (0 : Int))
        (
        G_g77 v76 v80 (0 : Int) (0 : Int) (0 : Int) (0 : Int)
        (fun b338 =>
        k389 b338 v80 (0 : Int) (0 : Int) (0 : Int) (0 : Int))))))))
        else
        none
        else
        none)
        (
        G_g106 v80
        (fun b339 =>
        cond b339
        (
        cond (((l158.length : Nat) : Int) == (2 : Int))
        (
        if 0 ≤ (0 : Int) ∧ (0 : Int) < (l158.length : Nat) then
        if 0 < l158.length then
        G_g76 (List.getD l158 0 0) (0 : Int) (IntKind.wrap .i64 (v76 - (1 : Int)))
        (fun b343 =>
        cond b343
        (
        if 0 ≤ (1 : Int) ∧ (1 : Int) < (l158.length : Nat) then
        if 1 < l158.length then
        G_g76 (List.getD l158 1 0) (0 : Int) (IntKind.wrap .i64 (v76 - (1 : Int)))
        (fun b346 =>
        cond b346
        (
        if 0 ≤ (0 : Int) ∧ (0 : Int) < (l158.length : Nat) then
        if 0 < l158.length then
        let x348 : Int := IntKind.wrap .i16 (List.getD l158 0 0)
        if 0 ≤ (1 : Int) ∧ (1 : Int) < (l158.length : Nat) then
        if 1 < l158.length then
        let x350 : Int := IntKind.wrap .i16 (List.getD l158 1 0)
        G_g77 v76 v80 x348 x350 (0 : Int) (0 : Int)
        (fun b351 =>
        k389 b351 v80 x348 x350 (0 : Int) (0 : Int))
        else
        none
        else
        none
        else
        none
        else
        none)
        (
        cond (decide (v80 < (11 : Int)))
        (
        k389 false (0 : Int) (0 : Int) (0 : Int) (0 : Int) (0 : Int))
        (
        cond (decide (((l158.length : Nat) : Int) > (0 : Int)))
        (
        k389 false (0 : Int) (0 : Int) (0 : Int) (0 : Int) (0 : Int))
        (
        G_g77 v76 v80 (0 : Int) (0 : Int) (0 : Int) (0 : Int)
        (fun b354 =>
        k389 b354 v80 (0 : Int) (0 : Int) (0 : Int) (0 : Int))))))
        else
        none
        else
        none)
        (
        cond (decide (v80 < (11 : Int)))
        (
        k389 false (0 : Int) (0 : Int) (0 : Int) (0 : Int) (0 : Int))
        (
        cond (decide (((l158.length : Nat) : Int) > (0 : Int)))
        (
        k389 false (0 : Int) (0 : Int) (0 : Int) (0 : Int) (0 : Int))
        (
        G_g77 v76 v80 (0 : Int) (0 : Int) (0 : Int) (0 : Int)
        (fun b357 =>
        k389 b357 v80 (0 : Int) (0 : Int) (0 : Int) (0 : Int))))))
        else
        none
        else
        none)
        (
        cond (decide (v80 < (11 : Int)))
        (
        k389 false (0 : Int) (0 : Int) (0 : Int) (0 : Int) (0 : Int))
        (
        cond (decide (((l158.length : Nat) : Int) > (0 : Int)))
        (
        k389 false (0 : Int) (0 : Int) (0 : Int) (0 : Int) (0 : Int))
        (
        G_g77 v76 v80 (0 : Int) (0 : Int) (0 : Int) (0 : Int)
        (fun b360 =>
        k389 b360 v80 (0 : Int) (0 : Int) (0 : Int) (0 : Int))))))
        (
        cond (decide (v80 < (11 : Int)))
        (
        k389 false (0 : Int) (0 : Int) (0 : Int) (0 : Int) (0 : Int))
        (
        cond (decide (((l158.length : Nat) : Int) > (0 : Int)))
        (
        k389 false (0 : Int) (0 : Int) (0 : Int) (0 : Int) (0 : Int))
        (
        G_g77 v76 v80 (0 : Int) (0 : Int) (0 : Int) (0 : Int)
        (fun b363 =>
        k389 b363 v80 (0 : Int) (0 : Int) (0 : Int) (0 : Int))))))))
        (
        G_g106 v80
        (fun b364 =>
        cond b364
        (
        cond (((l158.length : Nat) : Int) == (2 : Int))
        (
        if 0 ≤ (0 : Int) ∧ (0 : Int) < (l158.length : Nat) then
        if 0 < l158.length then
        G_g76 (List.getD l158 0 0) (0 : Int) (IntKind.wrap .i64 (v76 - (1 : Int)))
        (fun b368 =>
        cond b368
        (
        if 0 ≤ (1 : Int) ∧ (1 : Int) < (l158.length : Nat) then
        if 1 < l158.length then
        G_g76 (List.getD l158 1 0) (0 : Int) (IntKind.wrap .i64 (v76 - (1 : Int)))
        (fun b371 =>
        cond b371
        (
        if 0 ≤ (0 : Int) ∧ (0 : Int) < (l158.length : Nat) then
        if 0 < l158.length then
        let x373 : Int := IntKind.wrap .i16 (List.getD l158 0 0)
        if 0 ≤ (1 : Int) ∧ (1 : Int) < (l158.length : Nat) then
        if 1 < l158.length then
        let x375 : Int := IntKind.wrap .i16 (List.getD l158 1 0)
        G_g77 v76 v80 x373 x375 (0 : Int) (0 : Int)
        (fun b376 =>
        k389 b376 v80 x373 x375 (0 : Int) (0 : Int))
        else
        none
        else
        none
        else
        none
        else
        none)
        (
        cond (decide (v80 < (11 : Int)))
        (
        k389 false (0 : Int) (0 : Int) (0 : Int) (0 : Int) (0 : Int))
        (
        cond (decide (((l158.length : Nat) : Int) > (0 : Int)))
        (
        k389 false (0 : Int) (0 : Int) (0 : Int) (0 : Int) (0 : Int))
        (
        G_g77 v76 v80 (0 : Int) (0 : Int) (0 : Int) (0 : Int)
        (fun b379 =>
        k389 b379 v80 (0 : Int) (0 : Int) (0 : Int) (0 : Int))))))
        else
        none
        else
        none)
        (
        cond (decide (v80 < (11 : Int)))
        (
        k389 false (0 : Int) (0 : Int) (0 : Int) (0 : Int) (0 : Int))
        (
        cond (decide (((l158.length : Nat) : Int) > (0 : Int)))
        (
        k389 false (0 : Int) (0 : Int) (0 : Int) (0 : Int) (0 : Int))
        (
        G_g77 v76 v80 (0 : Int) (0 : Int) (0 : Int) (0 : Int)
        (fun b382 =>
        k389 b382 v80 (0 : Int) (0 : Int) (0 : Int) (0 : Int))))))
        else
        none
        else
        none)
        (
        cond (decide (v80 < (11 : Int)))
        (
        k389 false (0 : Int) (0 : Int) (0 : Int) (0 : Int) (0 : Int))
        (
        cond (decide (((l158.length : Nat) : Int) > (0 : Int)))
        (
        k389 false (0 : Int) (0 : Int) (0 : Int) (0 : Int) (0 : Int))
        (
        G_g77 v76 v80 (0 : Int) (0 : Int) (0 : Int) (0 : Int)
        (fun b385 =>
        k389 b385 v80 (0 : Int) (0 : Int) (0 : Int) (0 : Int))))))
        (
        cond (decide (v80 < (11 : Int)))
        (
        k389 false (0 : Int) (0 : Int) (0 : Int) (0 : Int) (0 : Int))
        (
        cond (decide (((l158.length : Nat) : Int) > (0 : Int)))
        (
        k389 false (0 : Int) (0 : Int) (0 : Int) (0 : Int) (0 : Int))
        (
        G_g77 v76 v80 (0 : Int) (0 : Int) (0 : Int) (0 : Int)
        (fun b388 =>
        k389 b388 v80 (0 : Int) (0 : Int) (0 : Int) (0 : Int))))))))))
        (1 : Int) [])
        else
        none
        else
        none
      else
        none
    else
      none)
   (
    k390)
def g70l0 {α : Type} (G_g104 : {α : Type} → S_g104 α) (G_g77 : {α : Type} → S_g77 α) (G_g105 : {α : Type} → S_g105 α) (G_g76 : {α : Type} → S_g76 α) (G_g106 : {α : Type} → S_g106 α) (L_g70l2 : {α : Type} → S_g70l2 α) (v76 : Int) (m77 : Nat) (m78 : Nat) (m79 : Nat) (v81 : Int) (v82 : Int) (v83 : Int) (v84 : Int) (v85 : Int) (a86 : Ty0) (a87 : Ty0) (k389 : Bool → Int → Int → Int → Int → Int → Option α) (k390 : Option α) : Nat → Int → Option α
  | 0 => fun _ => none
  | m + 1 => fun v80 => g70l0b G_g104 G_g77 G_g105 G_g76 G_g106 L_g70l2 v76 m77 m78 m79 v81 v82 v83 v84 v85 a86 a87 k389 k390 (g70l0 G_g104 G_g77 G_g105 G_g76 G_g106 L_g70l2 v76 m77 m78 m79 v81 v82 v83 v84 v85 a86 a87 k389 k390 m) v80
def g70l0M {α : Type} (m : Nat) : S_g70l0 α :=
  fun v76 m77 m78 m79 v81 v82 v83 v84 v85 a86 a87 k389 k390 v80 => g70l0 (g104 m) (g77 m) (g105 m) (g76 m) (g106 m) (g70l2M m) v76 m77 m78 m79 v81 v82 v83 v84 v85 a86 a87 k389 k390 m v80
def g70l0D : LoopD := { n := 137, low := [], sl := [1, 4, 6, 7, 8], bl := [1000000, 1000001, 1000002], tp := [(.vl (.sv (.int .i64))), (.vl (.sv (.ptr 1000000 0))), (.vl (.sv (.gsl 1000001 1))), (.vl (.sv (.slc 1000002 0 1))), (.vl (.sv (.int .i8)))], bp := [(true, [(.one (.int .i8)), (.one (.int .i16)), (.one (.int .i16)), (.one (.int .i64)), (.one (.int .i64))]), (true, [(.gro .str)]), (true, [(.seq .str 13)])], xs := [(1, [4, 5]), (2, [4])] }
def g70l0K {α : Type} (L : S_g70l0 α) (ls : List Lf) (k : KEx α) : Option α :=
  L (lf ls 0).int (lf ls 1).nat (lf ls 2).nat (lf ls 3).nat (lf ls 5).int (lf ls 6).int (lf ls 7).int (lf ls 8).int (lf ls 9).int ((lf ls 10).lst .str) ((lf ls 11).lst .str)
    (fun y0 y1 y2 y3 y4 y5 => k .ret (mkSt 137 [4, 5] [(.vl (.sv (.ptr 1000000 0))), (.vl (.sv (.bool y0)))] [1000000] [(true, [(.one (.int .i8 y1)), (.one (.int .i16 y2)), (.one (.int .i16 y3)), (.one (.int .i64 y4)), (.one (.int .i64 y5))])]))
    (k .normal (mkSt 137 [4] [(.vl (.sv (.ptr 1000000 0)))] [1000000] [(true, [(.one (.int .i8 (lf ls 5).int)), (.one (.int .i16 (lf ls 6).int)), (.one (.int .i16 (lf ls 7).int)), (.one (.int .i64 (lf ls 8).int)), (.one (.int .i64 (lf ls 9).int))])]))
    (lf ls 4).int
def g70b {α : Type} (G_g69 : {α : Type} → S_g69 α) (G_g103 : {α : Type} → S_g103 α) (G_g104 : {α : Type} → S_g104 α) (G_g77 : {α : Type} → S_g77 α) (G_g105 : {α : Type} → S_g105 α) (G_g76 : {α : Type} → S_g76 α) (G_g106 : {α : Type} → S_g106 α) (L_g70l2 : {α : Type} → S_g70l2 α) (L_g70l0 : {α : Type} → S_g70l0 α) (z71 : ByteArray) (p72 : Int) (k398 : Int → Int → Int → Int → Int → Bool → Option α) : Option α :=
  G_g69 z71 (32 : Int)
    (fun l73 =>
      G_g103
        (fun l75 =>
        L_g70l0 p72 0 13 13 (0 : Int) (0 : Int) (0 : Int) (0 : Int) (0 : Int) l73 l75
        (fun b392 x393 x394 x395 x396 x397 =>
        k398 x393 x394 x395 x396 x397 b392)
        (
        k398 (0 : Int) (0 : Int) (0 : Int) (0 : Int) (0 : Int) false)
        (1 : Int)))
def g70 {α : Type} (m : Nat) : S_g70 α :=
  g70b (g69 m) (g103 m) (g104 m) (g77 m) (g105 m) (g76 m) (g106 m) (g70l2M m) (g70l0M m)
def g70tp : List TP := [(.vl (.sv .str)), (.vl (.sv (.int .i64)))]
def g70bp : List BP := []
def g70K {α : Type} (G : S_g70 α) (ls : List Lf) (k : KRe α) : Option α :=
  G (lf ls 0).str (lf ls 1).int
    (fun y0 y1 y2 y3 y4 y5 => k (.tup [(.agg [(.one (.int .i8 y0)), (.one (.int .i16 y1)), (.one (.int .i16 y2)), (.one (.int .i64 y3)), (.one (.int .i64 y4))]), (.sv (.bool y5))]) [] [])
def g70R {α : Type} (G : S_g70 α) := rowK g70tp g70bp (g70K G)
def g70hd (G_g69 : {α : Type} → S_g69 α) (G_g103 : {α : Type} → S_g103 α) (G_g104 : {α : Type} → S_g104 α) (G_g77 : {α : Type} → S_g77 α) (G_g105 : {α : Type} → S_g105 α) (G_g76 : {α : Type} → S_g76 α) (G_g106 : {α : Type} → S_g106 α) (L_g70l2 : {α : Type} → S_g70l2 α) (L_g70l0 : {α : Type} → S_g70l0 α) : Hd where
  call := fun f args Bs k => cond (Nat.beq f 69) (g69R G_g69 args Bs k) (cond (Nat.beq f 103) (g103R G_g103 args Bs k) (cond (Nat.beq f 104) (g104R G_g104 args Bs k) (cond (Nat.beq f 77) (g77R G_g77 args Bs k) (cond (Nat.beq f 105) (g105R G_g105 args Bs k) (cond (Nat.beq f 76) (g76R G_g76 args Bs k) (cond (Nat.beq f 106) (g106R G_g106 args Bs k) (none)))))))
  loop := fun id st k => cond (Nat.beq id 2) (loopH g70l2D (g70l2K L_g70l2) st k) (cond (Nat.beq id 0) (loopH g70l0D (g70l0K L_g70l0) st k) (none))
  ro := fun f => cond (Nat.beq f 77) [0] ([])
def g70h (m : Nat) : Hd := g70hd (g69 m) (g103 m) (g104 m) (g77 m) (g105 m) (g76 m) (g106 m) (g70l2M m) (g70l0M m)
theorem g70l2Step (G_g69 : {α : Type} → S_g69 α) (G_g103 : {α : Type} → S_g103 α) (G_g104 : {α : Type} → S_g104 α) (G_g77 : {α : Type} → S_g77 α) (G_g105 : {α : Type} → S_g105 α) (G_g76 : {α : Type} → S_g76 α) (G_g106 : {α : Type} → S_g106 α) (L_g70l2 : {α : Type} → S_g70l2 α) (L_g70l0 : {α : Type} → S_g70l0 α) {α : Type} (L : S_g70l2 α) (ls : List Lf) (k : KEx α) :
    g70l2K (fun v93 v94 v96 v97 v98 v99 v100 a101 v102 v103 v104 v105 v106 k155 k156 v95 a107 => g70l2b G_g104 v93 v94 v96 v97 v98 v99 v100 a101 v102 v103 v104 v105 v106 k155 k156 (L v93 v94 v96 v97 v98 v99 v100 a101 v102 v103 v104 v105 v106 k155 k156) v95 a107) ls k = ev tab (g70hd G_g69 G_g103 G_g104 G_g77 G_g105 G_g76 G_g106 L_g70l2 L_g70l0) (bodyAt Go.Proofs.Tryd.f70 2) (atHead g70l2D ls) (loopK g70l2D 2 (loopH g70l2D (g70l2K L)) k) := by kernel_rfl
theorem g70l0Step (G_g69 : {α : Type} → S_g69 α) (G_g103 : {α : Type} → S_g103 α) (G_g104 : {α : Type} → S_g104 α) (G_g77 : {α : Type} → S_g77 α) (G_g105 : {α : Type} → S_g105 α) (G_g76 : {α : Type} → S_g76 α) (G_g106 : {α : Type} → S_g106 α) (L_g70l2 : {α : Type} → S_g70l2 α) (L_g70l0 : {α : Type} → S_g70l0 α) {α : Type} (L : S_g70l0 α) (ls : List Lf) (k : KEx α) :
    g70l0K (fun v76 m77 m78 m79 v81 v82 v83 v84 v85 a86 a87 k389 k390 v80 => g70l0b G_g104 G_g77 G_g105 G_g76 G_g106 L_g70l2 v76 m77 m78 m79 v81 v82 v83 v84 v85 a86 a87 k389 k390 (L v76 m77 m78 m79 v81 v82 v83 v84 v85 a86 a87 k389 k390) v80) ls k = ev tab (g70hd G_g69 G_g103 G_g104 G_g77 G_g105 G_g76 G_g106 L_g70l2 L_g70l0) (bodyAt Go.Proofs.Tryd.f70 0) (atHead g70l0D ls) (loopK g70l0D 0 (loopH g70l0D (g70l0K L)) k) := by kernel_rfl
theorem g70Main (G_g69 : {α : Type} → S_g69 α) (G_g103 : {α : Type} → S_g103 α) (G_g104 : {α : Type} → S_g104 α) (G_g77 : {α : Type} → S_g77 α) (G_g105 : {α : Type} → S_g105 α) (G_g76 : {α : Type} → S_g76 α) (G_g106 : {α : Type} → S_g106 α) (L_g70l2 : {α : Type} → S_g70l2 α) (L_g70l0 : {α : Type} → S_g70l0 α) {α : Type} (ls : List Lf) (k : KRe α) :
    g70K (g70b G_g69 G_g103 G_g104 G_g77 G_g105 G_g76 G_g106 L_g70l2 L_g70l0) ls k = evFun tab (g70hd G_g69 G_g103 G_g104 G_g77 G_g105 G_g76 G_g106 L_g70l2 L_g70l0) Go.Proofs.Tryd.f70 (fillT g70tp ls).1 (fillB g70bp (fillT g70tp ls).2).1 k := by kernel_rfl
theorem g70Calls (m : Nat) : (g70h m).CallsOk Go.Proofs.Tryd.prog := (cok_cons (g69Ok m) (cok_cons (g103Ok m) (cok_cons (g104Ok m) (cok_cons (g77Ok m) (cok_cons (g105Ok m) (cok_cons (g76Ok m) (cok_cons (g106Ok m) cok_nil)))))))
theorem g70l2Ok (m : Nat) (α : Type) (st : St) (k : KEx α) (r : α) (h : (g70h m).loop 2 st k = some r) :
    LoopS Go.Proofs.Tryd.prog 2 (bodyAt Go.Proofs.Tryd.f70 2) st k r :=
  loop_ok (tab := tab) (h := g70h m) (F := fun n ls k => g70l2K (fun v93 v94 v96 v97 v98 v99 v100 a101 v102 v103 v104 v105 v106 k155 k156 v95 a107 => g70l2 (g104 m) v93 v94 v96 v97 v98 v99 v100 a101 v102 v103 v104 v105 v106 k155 k156 n v95 a107) ls k) tabOk (g70Calls m) mixed (loopsOk_of _ (fun p hp => by rw [show loopsOf (bodyAt Go.Proofs.Tryd.f70 2) = [] by kernel_rfl] at hp; cases hp))
    (fun _ _ => rfl) (fun n ls k => g70l2Step (g69 m) (g103 m) (g104 m) (g77 m) (g105 m) (g76 m) (g106 m) (g70l2M m) (g70l0M m) (fun v93 v94 v96 v97 v98 v99 v100 a101 v102 v103 v104 v105 v106 k155 k156 => g70l2 (g104 m) v93 v94 v96 v97 v98 v99 v100 a101 v102 v103 v104 v105 v106 k155 k156 n) ls k) (n := m) h
theorem g70l0Ok (m : Nat) (α : Type) (st : St) (k : KEx α) (r : α) (h : (g70h m).loop 0 st k = some r) :
    LoopS Go.Proofs.Tryd.prog 0 (bodyAt Go.Proofs.Tryd.f70 0) st k r :=
  loop_ok (tab := tab) (h := g70h m) (F := fun n ls k => g70l0K (fun v76 m77 m78 m79 v81 v82 v83 v84 v85 a86 a87 k389 k390 v80 => g70l0 (g104 m) (g77 m) (g105 m) (g76 m) (g106 m) (g70l2M m) v76 m77 m78 m79 v81 v82 v83 v84 v85 a86 a87 k389 k390 n v80) ls k) tabOk (g70Calls m) mixed (loopsOk_of _ (fun p hp => by
    rw [show loopsOf (bodyAt Go.Proofs.Tryd.f70 0) = [(2, bodyAt Go.Proofs.Tryd.f70 2)] by kernel_rfl] at hp
    simp only [List.mem_cons, List.not_mem_nil, or_false] at hp
    rcases hp with rfl
    exact g70l2Ok m))
    (fun _ _ => rfl) (fun n ls k => g70l0Step (g69 m) (g103 m) (g104 m) (g77 m) (g105 m) (g76 m) (g106 m) (g70l2M m) (g70l0M m) (fun v76 m77 m78 m79 v81 v82 v83 v84 v85 a86 a87 k389 k390 => g70l0 (g104 m) (g77 m) (g105 m) (g76 m) (g106 m) (g70l2M m) v76 m77 m78 m79 v81 v82 v83 v84 v85 a86 a87 k389 k390 n) ls k) (n := m) h
theorem g70Fn (m : Nat) : FnOk Go.Proofs.Tryd.prog 70 g70tp g70bp (fun {α} => g70K (g70 m (α := α))) :=
  fn_ok (tab := tab) (h := g70h m) (fn := Go.Proofs.Tryd.f70) (F := fun {α} => g70K (g70 m (α := α))) tabOk (g70Calls m) mixed (by kernel_rfl) (by kernel_rfl) (fun c hc => by
    rw [bodyOf_some hc]
    exact loopsOk_of _ (fun p hp => by
    rw [show loopsOf (bodyOf Go.Proofs.Tryd.f70) = [(0, bodyAt Go.Proofs.Tryd.f70 0)] by kernel_rfl] at hp
    simp only [List.mem_cons, List.not_mem_nil, or_false] at hp
    rcases hp with rfl
    exact g70l0Ok m))
    (fun α ls k => g70Main (g69 m) (g103 m) (g104 m) (g77 m) (g105 m) (g76 m) (g106 m) (g70l2M m) (g70l0M m) ls k)
theorem g70Ok (m : Nat) : RowOk Go.Proofs.Tryd.prog 70 (fun {α} => g70R (g70 m (α := α))) := row_of (g70Fn m)
abbrev S_g77v1 (α : Type) : Type := Nat → Int → Ty1 → (Bool → Option α) → Option α
def g77v1b {α : Type} (G_g105 : {α : Type} → S_g105 α) (G_g76 : {α : Type} → S_g76 α) (G_g106 : {α : Type} → S_g106 α)  (m419 : Nat) (p420 : Int) (u421 : Ty1) (k478 : Bool → Option α) : Option α :=
  if m419 < u421.length then
    cond (decide (((List.getD u421 m419 []).headD 0) < (1 : Int)))
     (
      k478 false)
     (
      if m419 < u421.length then
        cond (decide (((List.getD u421 m419 []).headD 0) > (12 : Int)))
        (
        k478 false)
        (
        if m419 < u421.length then
        G_g105 ((List.getD u421 m419 []).headD 0)
        (fun b427 =>
        cond b427
        (
        if m419 < u421.length then
        G_g76 (IntKind.wrap .i64 (((List.getD u421 m419 []).tail).headD 0)) (0 : Int) (IntKind.wrap .i64 (p420 - (1 : Int)))
        (fun b431 =>
        cond (!b431)
        (
        k478 false)
        (
        if m419 < u421.length then
        cond ((((List.getD u421 m419 []).tail.tail.tail).headD 0) != (0 : Int))
        (
        k478 false)
        (
        if m419 < u421.length then
        cond ((((List.getD u421 m419 []).tail.tail.tail.tail).headD 0) != (0 : Int))
        (
        k478 false)
        (
        if m419 < u421.length then
        G_g106 ((List.getD u421 m419 []).headD 0)
        (fun b438 =>
        cond b438
        (
        if m419 < u421.length then
        G_g76 (IntKind.wrap .i64 (((List.getD u421 m419 []).tail.tail).headD 0)) (0 : Int) (IntKind.wrap .i64 (p420 - (1 : Int)))
        (fun b442 =>
        k478 b442)
        else
        none)
        (
        if m419 < u421.length then
        k478 ((((List.getD u421 m419 []).tail.tail).headD 0) == (0 : Int))
        else
        none))
        else
        none)
        else
        none)
        else
        none))
        else
        none)
        (
        if m419 < u421.length then
        G_g106 ((List.getD u421 m419 []).headD 0)
        (fun b446 =>
        cond b446
        (
        if m419 < u421.length then
        G_g76 (IntKind.wrap .i64 (((List.getD u421 m419 []).tail).headD 0)) (0 : Int) (IntKind.wrap .i64 (p420 - (1 : Int)))
        (fun b450 =>
        cond (!b450)
        (
        k478 false)
        (
        if m419 < u421.length then
        cond ((((List.getD u421 m419 []).tail.tail.tail).headD 0) != (0 : Int))
        (
        k478 false)
        (
        if m419 < u421.length then
        cond ((((List.getD u421 m419 []).tail.tail.tail.tail).headD 0) != (0 : Int))
        (
        k478 false)
        (
        if m419 < u421.length then
        G_g106 ((List.getD u421 m419 []).headD 0)
        (fun b457 =>
        cond b457
        (
        if m419 < u421.length then
        G_g76 (IntKind.wrap .i64 (((List.getD u421 m419 []).tail.tail).headD 0)) (0 : Int) (IntKind.wrap .i64 (p420 - (1 : Int)))
        (fun b461 =>
        k478 b461)
        else
        none)
        (
        if m419 < u421.length then
        k478 ((((List.getD u421 m419 []).tail.tail).headD 0) == (0 : Int))
        else
        none))
        else
        none)
        else
        none)
        else
        none))
        else
        none)
        (
        if m419 < u421.length then
        cond ((((List.getD u421 m419 []).tail).headD 0) != (0 : Int))
        (
        k478 false)
        (
        if m419 < u421.length then
        cond ((((List.getD u421 m419 []).tail.tail).headD 0) != (0 : Int))
        (
        k478 false)
        (
        if m419 < u421.length then
        cond (((List.getD u421 m419 []).headD 0) == (1 : Int))
        (
        if m419 < u421.length then
        G_g76 (((List.getD u421 m419 []).tail.tail.tail).headD 0) (-1000000000 : Int) (1000000000 : Int)
        (fun b471 =>
        cond b471
        (
        if m419 < u421.length then
        G_g76 (((List.getD u421 m419 []).tail.tail.tail.tail).headD 0) (1 : Int) (1000000000 : Int)
        (fun b473 =>
        k478 b473)
        else
        none)
        (
        k478 false))
        else
        none)
        (
        if m419 < u421.length then
        cond ((((List.getD u421 m419 []).tail.tail.tail).headD 0) == (0 : Int))
        (
        if m419 < u421.length then
        k478 ((((List.getD u421 m419 []).tail.tail.tail.tail).headD 0) == (0 : Int))
        else
        none)
        (
        k478 false)
        else
        none)
        else
        none)
        else
        none)
        else
        none))
        else
        none))
        else
        none)
      else
        none)
  else
    none
def g77v1 {α : Type} (m : Nat) : S_g77v1 α :=
  g77v1b (g105 m) (g76 m) (g106 m)
def g77v1tp : List TP := [(.vl (.sv (.el 0 0 5 0))), (.vl (.sv (.int .i64)))]
def g77v1bp : List BP := [(false, [(.gro (.rc [.i8, .i16, .i16, .i64, .i64]))])]
def g77v1K {α : Type} (G : S_g77v1 α) (ls : List Lf) (k : KRe α) : Option α :=
  G (lf ls 0).nat (lf ls 1).int ((lf ls 2).lst (.rc [.i8, .i16, .i16, .i64, .i64]))
    (fun y0 => k (.vl (.sv (.bool y0))) [[(.gro (.rc [.i8, .i16, .i16, .i64, .i64]) ((lf ls 2).lst (.rc [.i8, .i16, .i16, .i64, .i64])))]] [])
def g77v1R {α : Type} (G : S_g77v1 α) := rowK g77v1tp g77v1bp (g77v1K G)
def g77v1hd (G_g105 : {α : Type} → S_g105 α) (G_g76 : {α : Type} → S_g76 α) (G_g106 : {α : Type} → S_g106 α)  : Hd where
  call := fun f args Bs k => cond (Nat.beq f 105) (g105R G_g105 args Bs k) (cond (Nat.beq f 76) (g76R G_g76 args Bs k) (cond (Nat.beq f 106) (g106R G_g106 args Bs k) (none)))
  loop := fun id st k => none
  ro := fun f => []
def g77v1h (m : Nat) : Hd := g77v1hd (g105 m) (g76 m) (g106 m)
theorem g77v1Main (G_g105 : {α : Type} → S_g105 α) (G_g76 : {α : Type} → S_g76 α) (G_g106 : {α : Type} → S_g106 α)  {α : Type} (ls : List Lf) (k : KRe α) :
    g77v1K (g77v1b G_g105 G_g76 G_g106) ls k = evFun tab (g77v1hd G_g105 G_g76 G_g106) Go.Proofs.Tryd.f77 (fillT g77v1tp ls).1 (fillB g77v1bp (fillT g77v1tp ls).2).1 k := by kernel_rfl
theorem g77v1Calls (m : Nat) : (g77v1h m).CallsOk Go.Proofs.Tryd.prog := (cok_cons (g105Ok m) (cok_cons (g76Ok m) (cok_cons (g106Ok m) cok_nil)))
theorem g77v1Fn (m : Nat) : FnOk Go.Proofs.Tryd.prog 77 g77v1tp g77v1bp (fun {α} => g77v1K (g77v1 m (α := α))) :=
  fn_ok (tab := tab) (h := g77v1h m) (fn := Go.Proofs.Tryd.f77) (F := fun {α} => g77v1K (g77v1 m (α := α))) tabOk (g77v1Calls m) mixed (by kernel_rfl) (by kernel_rfl) (fun c hc => by
    rw [bodyOf_some hc]
    exact loopsOk_of _ (fun p hp => by rw [show loopsOf (bodyOf Go.Proofs.Tryd.f77) = [] by kernel_rfl] at hp; cases hp))
    (fun α ls k => g77v1Main (g105 m) (g76 m) (g106 m) ls k)
theorem g77v1Ok (m : Nat) : RowOk Go.Proofs.Tryd.prog 77 (fun {α} => g77v1R (g77v1 m (α := α))) := row_of (g77v1Fn m)
abbrev S_g37 (α : Type) : Type := Ty1 → (Bool → Option α) → Option α
abbrev S_g37l0 (α : Type) : Type := Ty1 → (Option α) → (Option α) → Int → Option α
def g37l0b {α : Type} (G_g77v1 : {α : Type} → S_g77v1 α)  (a417 : Ty1) (k482 : Option α) (k483 : Option α) (r484 : Int → Option α) (v416 : Int) : Option α :=
  cond (decide (v416 < ((a417.length : Nat) : Int)))
   (
    if 0 ≤ v416 ∧ v416 < (a417.length : Nat) then
      G_g77v1 (v416.toNat) v416 a417
        (fun b479 =>
        cond (!b479)
        (
        k482)
        (
        r484 (IntKind.wrap .i64 (v416 + (1 : Int)))))
    else
      none)
   (
    k483)
def g37l0 {α : Type} (G_g77v1 : {α : Type} → S_g77v1 α)  (a417 : Ty1) (k482 : Option α) (k483 : Option α) : Nat → Int → Option α
  | 0 => fun _ => none
  | m + 1 => fun v416 => g37l0b G_g77v1 a417 k482 k483 (g37l0 G_g77v1 a417 k482 k483 m) v416
def g37l0M {α : Type} (m : Nat) : S_g37l0 α :=
  fun a417 k482 k483 v416 => g37l0 (g77v1 m) a417 k482 k483 m v416
def g37l0D : LoopD := { n := 20, low := [0], sl := [0, 3], bl := [0], tp := [(.vl (.sv (.gsl 0 5))), (.vl (.sv (.int .i64)))], bp := [(false, [(.gro (.rc [.i8, .i16, .i16, .i64, .i64]))])], xs := [(1, [2]), (2, [])] }
def g37l0K {α : Type} (L : S_g37l0 α) (ls : List Lf) (k : KEx α) : Option α :=
  L ((lf ls 1).lst (.rc [.i8, .i16, .i16, .i64, .i64]))
    (k .ret (mkSt 20 [2] [(.vl (.sv (.bool false)))] [0] [(false, [(.gro (.rc [.i8, .i16, .i16, .i64, .i64]) ((lf ls 1).lst (.rc [.i8, .i16, .i16, .i64, .i64])))])]))
    (k .normal (mkSt 20 [] [] [0] [(false, [(.gro (.rc [.i8, .i16, .i16, .i64, .i64]) ((lf ls 1).lst (.rc [.i8, .i16, .i16, .i64, .i64])))])]))
    (lf ls 0).int
def g37b {α : Type} (G_g76 : {α : Type} → S_g76 α) (G_g77v1 : {α : Type} → S_g77v1 α) (L_g37l0 : {α : Type} → S_g37l0 α) (u413 : Ty1) (k485 : Bool → Option α) : Option α :=
  G_g76 ((u413.length : Nat) : Int) (1 : Int) (40 : Int)
    (fun b414 =>
      cond (!b414)
       (
        k485 false)
       (
        L_g37l0 u413
        (
        k485 false)
        (
        k485 true)
        (0 : Int)))
def g37 {α : Type} (m : Nat) : S_g37 α :=
  g37b (g76 m) (g77v1 m) (g37l0M m)
def g37tp : List TP := [(.vl (.sv (.gsl 0 5)))]
def g37bp : List BP := [(false, [(.gro (.rc [.i8, .i16, .i16, .i64, .i64]))])]
def g37K {α : Type} (G : S_g37 α) (ls : List Lf) (k : KRe α) : Option α :=
  G ((lf ls 0).lst (.rc [.i8, .i16, .i16, .i64, .i64]))
    (fun y0 => k (.vl (.sv (.bool y0))) [[(.gro (.rc [.i8, .i16, .i16, .i64, .i64]) ((lf ls 0).lst (.rc [.i8, .i16, .i16, .i64, .i64])))]] [])
def g37R {α : Type} (G : S_g37 α) := rowK g37tp g37bp (g37K G)
def g37hd (G_g76 : {α : Type} → S_g76 α) (G_g77v1 : {α : Type} → S_g77v1 α) (L_g37l0 : {α : Type} → S_g37l0 α) : Hd where
  call := fun f args Bs k => cond (Nat.beq f 76) (g76R G_g76 args Bs k) (cond (Nat.beq f 77) (g77v1R G_g77v1 args Bs k) (none))
  loop := fun id st k => cond (Nat.beq id 0) (loopH g37l0D (g37l0K L_g37l0) st k) (none)
  ro := fun f => cond (Nat.beq f 77) [0] ([])
def g37h (m : Nat) : Hd := g37hd (g76 m) (g77v1 m) (g37l0M m)
theorem g37l0Step (G_g76 : {α : Type} → S_g76 α) (G_g77v1 : {α : Type} → S_g77v1 α) (L_g37l0 : {α : Type} → S_g37l0 α) {α : Type} (L : S_g37l0 α) (ls : List Lf) (k : KEx α) :
    g37l0K (fun a417 k482 k483 v416 => g37l0b G_g77v1 a417 k482 k483 (L a417 k482 k483) v416) ls k = ev tab (g37hd G_g76 G_g77v1 L_g37l0) (bodyAt Go.Proofs.Tryd.f37 0) (atHead g37l0D ls) (loopK g37l0D 0 (loopH g37l0D (g37l0K L)) k) := by kernel_rfl
theorem g37Main (G_g76 : {α : Type} → S_g76 α) (G_g77v1 : {α : Type} → S_g77v1 α) (L_g37l0 : {α : Type} → S_g37l0 α) {α : Type} (ls : List Lf) (k : KRe α) :
    g37K (g37b G_g76 G_g77v1 L_g37l0) ls k = evFun tab (g37hd G_g76 G_g77v1 L_g37l0) Go.Proofs.Tryd.f37 (fillT g37tp ls).1 (fillB g37bp (fillT g37tp ls).2).1 k := by kernel_rfl
theorem g37Calls (m : Nat) : (g37h m).CallsOk Go.Proofs.Tryd.prog := (cok_cons (g76Ok m) (cok_cons (g77v1Ok m) cok_nil))
theorem g37l0Ok (m : Nat) (α : Type) (st : St) (k : KEx α) (r : α) (h : (g37h m).loop 0 st k = some r) :
    LoopS Go.Proofs.Tryd.prog 0 (bodyAt Go.Proofs.Tryd.f37 0) st k r :=
  loop_ok (tab := tab) (h := g37h m) (F := fun n ls k => g37l0K (fun a417 k482 k483 v416 => g37l0 (g77v1 m) a417 k482 k483 n v416) ls k) tabOk (g37Calls m) mixed (loopsOk_of _ (fun p hp => by rw [show loopsOf (bodyAt Go.Proofs.Tryd.f37 0) = [] by kernel_rfl] at hp; cases hp))
    (fun _ _ => rfl) (fun n ls k => g37l0Step (g76 m) (g77v1 m) (g37l0M m) (fun a417 k482 k483 => g37l0 (g77v1 m) a417 k482 k483 n) ls k) (n := m) h
theorem g37Fn (m : Nat) : FnOk Go.Proofs.Tryd.prog 37 g37tp g37bp (fun {α} => g37K (g37 m (α := α))) :=
  fn_ok (tab := tab) (h := g37h m) (fn := Go.Proofs.Tryd.f37) (F := fun {α} => g37K (g37 m (α := α))) tabOk (g37Calls m) mixed (by kernel_rfl) (by kernel_rfl) (fun c hc => by
    rw [bodyOf_some hc]
    exact loopsOk_of _ (fun p hp => by
    rw [show loopsOf (bodyOf Go.Proofs.Tryd.f37) = [(0, bodyAt Go.Proofs.Tryd.f37 0)] by kernel_rfl] at hp
    simp only [List.mem_cons, List.not_mem_nil, or_false] at hp
    rcases hp with rfl
    exact g37l0Ok m))
    (fun α ls k => g37Main (g76 m) (g77v1 m) (g37l0M m) ls k)
theorem g37Ok (m : Nat) : RowOk Go.Proofs.Tryd.prog 37 (fun {α} => g37R (g37 m (α := α))) := row_of (g37Fn m)
abbrev S_g33 (α : Type) : Type := ByteArray → (Int → Ty1 → Option α) → Option α
abbrev S_g33l0 (α : Type) : Type := Int → Ty0 → (Ty1 → Option α) → (Ty1 → Option α) → Int → Ty1 → Option α
def g33l0b {α : Type} (G_g70 : {α : Type} → S_g70 α)  (v64 : Int) (a66 : Ty0) (k408 : Ty1 → Option α) (k409 : Ty1 → Option α) (r410 : Int → Ty1 → Option α) (v65 : Int) (a67 : Ty1) : Option α :=
  cond (decide (v65 < (IntKind.wrap .i64 (v64 - (1 : Int)))))
   (
    if 0 ≤ v65 ∧ v65 < (a66.length : Nat) then
      if v65.toNat < a66.length then
        G_g70 (List.getD a66 v65.toNat ⟨#[]⟩) v65
        (fun x399 x400 x401 x402 x403 b404 =>
        cond (!b404)
        (
        k408 [])
        (
        if a67.length + 1 ≤ 67108864 then
        r410 (IntKind.wrap .i64 (v65 + (1 : Int))) (a67 ++ [[x399, x400, x401, x402, x403]])
        else
        none))
      else
        none
    else
      none)
   (
    k409 a67)
def g33l0 {α : Type} (G_g70 : {α : Type} → S_g70 α)  (v64 : Int) (a66 : Ty0) (k408 : Ty1 → Option α) (k409 : Ty1 → Option α) : Nat → Int → Ty1 → Option α
  | 0 => fun _ _ => none
  | m + 1 => fun v65 a67 => g33l0b G_g70 v64 a66 k408 k409 (g33l0 G_g70 v64 a66 k408 k409 m) v65 a67
def g33l0M {α : Type} (m : Nat) : S_g33l0 α :=
  fun v64 a66 k408 k409 v65 a67 => g33l0 (g70 m) v64 a66 k408 k409 m v65 a67
def g33l0D : LoopD := { n := 53, low := [], sl := [4, 5, 6, 7], bl := [1000000, 1000001], tp := [(.vl (.sv (.gsl 1000000 1))), (.vl (.sv (.int .i64))), (.vl (.sv (.gsl 1000001 5))), (.vl (.sv (.int .i64)))], bp := [(true, [(.gro .str)]), (true, [(.gro (.rc [.i8, .i16, .i16, .i64, .i64]))])], xs := [(1, [2, 3]), (2, [6])] }
def g33l0K {α : Type} (L : S_g33l0 α) (ls : List Lf) (k : KEx α) : Option α :=
  L (lf ls 0).int ((lf ls 2).lst .str)
    (fun y1 => k .ret (mkSt 53 [2, 3] [(.vl (.sv (.gsl 1000000 5))), (.vl (.sv (.int .i64 (5 : Int))))] [1000000] [(true, [(.gro (.rc [.i8, .i16, .i16, .i64, .i64]) y1)])]))
    (fun y0 => k .normal (mkSt 53 [6] [(.vl (.sv (.gsl 1000000 5)))] [1000000] [(true, [(.gro (.rc [.i8, .i16, .i16, .i64, .i64]) y0)])]))
    (lf ls 1).int ((lf ls 3).lst (.rc [.i8, .i16, .i16, .i64, .i64]))
def g33b {α : Type} (G_g69 : {α : Type} → S_g69 α) (G_g70 : {α : Type} → S_g70 α) (G_g37 : {α : Type} → S_g37 α) (L_g33l0 : {α : Type} → S_g33l0 α) (z36 : ByteArray) (k488 : Int → Ty1 → Option α) : Option α :=
  G_g69 z36 (10 : Int)
    (fun l59 =>
      cond (decide (((l59.length : Nat) : Int) > (41 : Int)))
       (
        k488 (5 : Int) [])
       (
        let x61 : Int := IntKind.wrap .i64 (((l59.length : Nat) : Int) - (1 : Int))
        if 0 ≤ x61 ∧ x61 < (l59.length : Nat) then
        if x61.toNat < l59.length then
        cond (!bytesEq (List.getD l59 x61.toNat ⟨#[]⟩) (⟨#[]⟩ : ByteArray))
        (
        k488 (5 : Int) [])
        (
        L_g33l0 ((l59.length : Nat) : Int) l59
        (fun l411 =>
        k488 (5 : Int) l411)
        (fun l412 =>
        G_g37 l412
        (fun b486 =>
        cond (!b486)
        (
        k488 (5 : Int) [])
        (
        k488 (0 : Int) l412)))
        (0 : Int) [])
        else
        none
        else
        none))
def g33 {α : Type} (m : Nat) : S_g33 α :=
  g33b (g69 m) (g70 m) (g37 m) (g33l0M m)
def g33tp : List TP := [(.vl (.sv .str))]
def g33bp : List BP := []
def g33K {α : Type} (G : S_g33 α) (ls : List Lf) (k : KRe α) : Option α :=
  G (lf ls 0).str
    (fun y0 y1 => k (.tup [(.sv (.gsl 0 5)), (.sv (.int .i64 y0))]) [] [[(.gro (.rc [.i8, .i16, .i16, .i64, .i64]) y1)]])
def g33R {α : Type} (G : S_g33 α) := rowK g33tp g33bp (g33K G)
def g33hd (G_g69 : {α : Type} → S_g69 α) (G_g70 : {α : Type} → S_g70 α) (G_g37 : {α : Type} → S_g37 α) (L_g33l0 : {α : Type} → S_g33l0 α) : Hd where
  call := fun f args Bs k => cond (Nat.beq f 69) (g69R G_g69 args Bs k) (cond (Nat.beq f 70) (g70R G_g70 args Bs k) (cond (Nat.beq f 37) (g37R G_g37 args Bs k) (none)))
  loop := fun id st k => cond (Nat.beq id 0) (loopH g33l0D (g33l0K L_g33l0) st k) (none)
  ro := fun f => cond (Nat.beq f 37) [0] ([])
def g33h (m : Nat) : Hd := g33hd (g69 m) (g70 m) (g37 m) (g33l0M m)
theorem g33l0Step (G_g69 : {α : Type} → S_g69 α) (G_g70 : {α : Type} → S_g70 α) (G_g37 : {α : Type} → S_g37 α) (L_g33l0 : {α : Type} → S_g33l0 α) {α : Type} (L : S_g33l0 α) (ls : List Lf) (k : KEx α) :
    g33l0K (fun v64 a66 k408 k409 v65 a67 => g33l0b G_g70 v64 a66 k408 k409 (L v64 a66 k408 k409) v65 a67) ls k = ev tab (g33hd G_g69 G_g70 G_g37 L_g33l0) (bodyAt Go.Proofs.Tryd.f33 0) (atHead g33l0D ls) (loopK g33l0D 0 (loopH g33l0D (g33l0K L)) k) := by kernel_rfl
theorem g33Main (G_g69 : {α : Type} → S_g69 α) (G_g70 : {α : Type} → S_g70 α) (G_g37 : {α : Type} → S_g37 α) (L_g33l0 : {α : Type} → S_g33l0 α) {α : Type} (ls : List Lf) (k : KRe α) :
    g33K (g33b G_g69 G_g70 G_g37 L_g33l0) ls k = evFun tab (g33hd G_g69 G_g70 G_g37 L_g33l0) Go.Proofs.Tryd.f33 (fillT g33tp ls).1 (fillB g33bp (fillT g33tp ls).2).1 k := by kernel_rfl
theorem g33Calls (m : Nat) : (g33h m).CallsOk Go.Proofs.Tryd.prog := (cok_cons (g69Ok m) (cok_cons (g70Ok m) (cok_cons (g37Ok m) cok_nil)))
theorem g33l0Ok (m : Nat) (α : Type) (st : St) (k : KEx α) (r : α) (h : (g33h m).loop 0 st k = some r) :
    LoopS Go.Proofs.Tryd.prog 0 (bodyAt Go.Proofs.Tryd.f33 0) st k r :=
  loop_ok (tab := tab) (h := g33h m) (F := fun n ls k => g33l0K (fun v64 a66 k408 k409 v65 a67 => g33l0 (g70 m) v64 a66 k408 k409 n v65 a67) ls k) tabOk (g33Calls m) mixed (loopsOk_of _ (fun p hp => by rw [show loopsOf (bodyAt Go.Proofs.Tryd.f33 0) = [] by kernel_rfl] at hp; cases hp))
    (fun _ _ => rfl) (fun n ls k => g33l0Step (g69 m) (g70 m) (g37 m) (g33l0M m) (fun v64 a66 k408 k409 => g33l0 (g70 m) v64 a66 k408 k409 n) ls k) (n := m) h
theorem g33Fn (m : Nat) : FnOk Go.Proofs.Tryd.prog 33 g33tp g33bp (fun {α} => g33K (g33 m (α := α))) :=
  fn_ok (tab := tab) (h := g33h m) (fn := Go.Proofs.Tryd.f33) (F := fun {α} => g33K (g33 m (α := α))) tabOk (g33Calls m) mixed (by kernel_rfl) (by kernel_rfl) (fun c hc => by
    rw [bodyOf_some hc]
    exact loopsOk_of _ (fun p hp => by
    rw [show loopsOf (bodyOf Go.Proofs.Tryd.f33) = [(0, bodyAt Go.Proofs.Tryd.f33 0)] by kernel_rfl] at hp
    simp only [List.mem_cons, List.not_mem_nil, or_false] at hp
    rcases hp with rfl
    exact g33l0Ok m))
    (fun α ls k => g33Main (g69 m) (g70 m) (g37 m) (g33l0M m) ls k)
theorem g33Ok (m : Nat) : RowOk Go.Proofs.Tryd.prog 33 (fun {α} => g33R (g33 m (α := α))) := row_of (g33Fn m)
abbrev S_g71 (α : Type) : Type := ByteArray → Int → (Bool → Option α) → (Nat → Nat → Nat → Ty0 → Option α) → Option α
def g71b {α : Type} (G_g107 : {α : Type} → S_g107 α) (G_g73 : {α : Type} → S_g73 α)  (z492 : ByteArray) (p493 : Int) (k512 : Bool → Option α) (k513 : Nat → Nat → Nat → Ty0 → Option α) : Option α :=
  cond (bytesEq z492 (⟨#[]⟩ : ByteArray))
   (
    k512 true)
   (
    let x495 : Int := IntKind.wrap .i64 (((z492.size : Nat) : Int) - (1 : Int))
    if 0 ≤ x495 ∧ x495 < z492.size then
      cond ((byteAt z492 x495.toNat) != (10 : Int))
       (
        k512 false)
       (
        G_g107 z492 (⟨#[10]⟩ : ByteArray)
        (fun x501 =>
        cond (decide (x501 > p493))
        (
        k512 false)
        (
        let x503 : Int := IntKind.wrap .i64 (((z492.size : Nat) : Int) - (1 : Int))
        if 0 ≤ (0 : Int) ∧ (0 : Int) ≤ x503 ∧ x503 ≤ ((z492.size : Nat) : Int) then
        G_g73 (ByteArray.extract z492 0 (Int.toNat x503)) (⟨#[10]⟩ : ByteArray)
        (fun n508 n509 n510 l511 =>
        k513 n508 n509 n510 l511)
        else
        none)))
    else
      none)
def g71 {α : Type} (m : Nat) : S_g71 α :=
  g71b (g107 m) (g73 m)
def g71tp : List TP := [(.vl (.sv .str)), (.vl (.sv (.int .i64)))]
def g71bp : List BP := []
def g71K {α : Type} (G : S_g71 α) (ls : List Lf) (k : KRe α) : Option α :=
  G (lf ls 0).str (lf ls 1).int
    (fun y0 => k (.tup [(.sv .nils), (.sv (.bool y0))]) [] [])
    (fun y1 y2 y4 y5 => k (.tup [(.sv (.slc 0 0 1 0 y1 y2)), (.sv (.bool true))]) [] [[(.seq .str y4 y5)]])
def g71R {α : Type} (G : S_g71 α) := rowK g71tp g71bp (g71K G)
def g71hd (G_g107 : {α : Type} → S_g107 α) (G_g73 : {α : Type} → S_g73 α)  : Hd where
  call := fun f args Bs k => cond (Nat.beq f 107) (g107R G_g107 args Bs k) (cond (Nat.beq f 73) (g73R G_g73 args Bs k) (none))
  loop := fun id st k => none
  ro := fun f => []
def g71h (m : Nat) : Hd := g71hd (g107 m) (g73 m)
theorem g71Main (G_g107 : {α : Type} → S_g107 α) (G_g73 : {α : Type} → S_g73 α)  {α : Type} (ls : List Lf) (k : KRe α) :
    g71K (g71b G_g107 G_g73) ls k = evFun tab (g71hd G_g107 G_g73) Go.Proofs.Tryd.f71 (fillT g71tp ls).1 (fillB g71bp (fillT g71tp ls).2).1 k := by kernel_rfl
theorem g71Calls (m : Nat) : (g71h m).CallsOk Go.Proofs.Tryd.prog := (cok_cons (g107Ok m) (cok_cons (g73Ok m) cok_nil))
theorem g71Fn (m : Nat) : FnOk Go.Proofs.Tryd.prog 71 g71tp g71bp (fun {α} => g71K (g71 m (α := α))) :=
  fn_ok (tab := tab) (h := g71h m) (fn := Go.Proofs.Tryd.f71) (F := fun {α} => g71K (g71 m (α := α))) tabOk (g71Calls m) mixed (by kernel_rfl) (by kernel_rfl) (fun c hc => by
    rw [bodyOf_some hc]
    exact loopsOk_of _ (fun p hp => by rw [show loopsOf (bodyOf Go.Proofs.Tryd.f71) = [] by kernel_rfl] at hp; cases hp))
    (fun α ls k => g71Main (g107 m) (g73 m) ls k)
theorem g71Ok (m : Nat) : RowOk Go.Proofs.Tryd.prog 71 (fun {α} => g71R (g71 m (α := α))) := row_of (g71Fn m)
abbrev S_g74 (α : Type) : Type := Int → (Bool → Bool → Bool → Option α) → Option α
def g74b {α : Type}   (p534 : Int) (k545 : Bool → Bool → Bool → Option α) : Option α :=
  cond (p534 == (1 : Int))
   (
    k545 false false true)
   (
    cond (p534 == (2 : Int))
     (
      k545 true true false)
     (
      cond (p534 == (3 : Int))
       (
        k545 true true false)
       (
        cond (p534 == (4 : Int))
        (
        k545 true true false)
        (
        cond (p534 == (5 : Int))
        (
        k545 true true false)
        (
        cond (p534 == (8 : Int))
        (
        k545 true true false)
        (
        cond (p534 == (9 : Int))
        (
        k545 true true false)
        (
        cond (p534 == (6 : Int))
        (
        k545 true false false)
        (
        cond (p534 == (7 : Int))
        (
        k545 true false false)
        (
        cond (p534 == (10 : Int))
        (
        k545 true false false)
        (
        k545 false false false))))))))))
def g74 {α : Type} (m : Nat) : S_g74 α :=
  g74b
def g74tp : List TP := [(.vl (.sv (.int .i8)))]
def g74bp : List BP := []
def g74K {α : Type} (G : S_g74 α) (ls : List Lf) (k : KRe α) : Option α :=
  G (lf ls 0).int
    (fun y0 y1 y2 => k (.tup [(.sv (.bool y0)), (.sv (.bool y1)), (.sv (.bool y2))]) [] [])
def g74R {α : Type} (G : S_g74 α) := rowK g74tp g74bp (g74K G)
def g74hd   : Hd where
  call := fun f args Bs k => none
  loop := fun id st k => none
  ro := fun f => []
def g74h (m : Nat) : Hd := g74hd
theorem g74Main   {α : Type} (ls : List Lf) (k : KRe α) :
    g74K (g74b) ls k = evFun tab (g74hd) Go.Proofs.Tryd.f74 (fillT g74tp ls).1 (fillB g74bp (fillT g74tp ls).2).1 k := by kernel_rfl
theorem g74Calls (m : Nat) : (g74h m).CallsOk Go.Proofs.Tryd.prog := cok_nil
theorem g74Fn (m : Nat) : FnOk Go.Proofs.Tryd.prog 74 g74tp g74bp (fun {α} => g74K (g74 m (α := α))) :=
  fn_ok (tab := tab) (h := g74h m) (fn := Go.Proofs.Tryd.f74) (F := fun {α} => g74K (g74 m (α := α))) tabOk (g74Calls m) mixed (by kernel_rfl) (by kernel_rfl) (fun c hc => by
    rw [bodyOf_some hc]
    exact loopsOk_of _ (fun p hp => by rw [show loopsOf (bodyOf Go.Proofs.Tryd.f74) = [] by kernel_rfl] at hp; cases hp))
    (fun α ls k => g74Main ls k)
theorem g74Ok (m : Nat) : RowOk Go.Proofs.Tryd.prog 74 (fun {α} => g74R (g74 m (α := α))) := row_of (g74Fn m)
abbrev S_g111 (α : Type) : Type := Int → Int → Int → (Bool → Option α) → Option α
def g111b {α : Type}   (p555 : Int) (p556 : Int) (p557 : Int) (k560 : Bool → Option α) : Option α :=
  cond (decide (p555 ≥ p556))
   (
    k560 (decide (p555 ≤ p557)))
   (
    k560 false)
def g111 {α : Type} (m : Nat) : S_g111 α :=
  g111b
def g111tp : List TP := [(.vl (.sv (.int .i64))), (.vl (.sv (.int .i64))), (.vl (.sv (.int .i64)))]
def g111bp : List BP := []
def g111K {α : Type} (G : S_g111 α) (ls : List Lf) (k : KRe α) : Option α :=
  G (lf ls 0).int (lf ls 1).int (lf ls 2).int
    (fun y0 => k (.vl (.sv (.bool y0))) [] [])
def g111R {α : Type} (G : S_g111 α) := rowK g111tp g111bp (g111K G)
def g111hd   : Hd where
  call := fun f args Bs k => none
  loop := fun id st k => none
  ro := fun f => []
def g111h (m : Nat) : Hd := g111hd
theorem g111Main   {α : Type} (ls : List Lf) (k : KRe α) :
    g111K (g111b) ls k = evFun tab (g111hd) Go.Proofs.Tryd.f111 (fillT g111tp ls).1 (fillB g111bp (fillT g111tp ls).2).1 k := by kernel_rfl
theorem g111Calls (m : Nat) : (g111h m).CallsOk Go.Proofs.Tryd.prog := cok_nil
theorem g111Fn (m : Nat) : FnOk Go.Proofs.Tryd.prog 111 g111tp g111bp (fun {α} => g111K (g111 m (α := α))) :=
  fn_ok (tab := tab) (h := g111h m) (fn := Go.Proofs.Tryd.f111) (F := fun {α} => g111K (g111 m (α := α))) tabOk (g111Calls m) mixed (by kernel_rfl) (by kernel_rfl) (fun c hc => by
    rw [bodyOf_some hc]
    exact loopsOk_of _ (fun p hp => by rw [show loopsOf (bodyOf Go.Proofs.Tryd.f111) = [] by kernel_rfl] at hp; cases hp))
    (fun α ls k => g111Main ls k)
theorem g111Ok (m : Nat) : RowOk Go.Proofs.Tryd.prog 111 (fun {α} => g111R (g111 m (α := α))) := row_of (g111Fn m)
abbrev S_g79 (α : Type) : Type := Int → Int → Int → (Bool → Option α) → Option α
def g79b {α : Type} (G_g111 : {α : Type} → S_g111 α)  (p551 : Int) (p552 : Int) (p553 : Int) (k565 : Bool → Option α) : Option α :=
  cond (p551 == (1 : Int))
   (
    G_g111 p552 (-1000000000 : Int) (1000000000 : Int)
      (fun b561 =>
        cond b561
        (
        G_g111 p553 (1 : Int) (1000000000 : Int)
        (fun b562 =>
        k565 b562))
        (
        k565 false)))
   (
    cond (p552 == (0 : Int))
     (
      k565 (p553 == (0 : Int)))
     (
      k565 false))
def g79 {α : Type} (m : Nat) : S_g79 α :=
  g79b (g111 m)
def g79tp : List TP := [(.vl (.sv (.int .i8))), (.vl (.sv (.int .i64))), (.vl (.sv (.int .i64)))]
def g79bp : List BP := []
def g79K {α : Type} (G : S_g79 α) (ls : List Lf) (k : KRe α) : Option α :=
  G (lf ls 0).int (lf ls 1).int (lf ls 2).int
    (fun y0 => k (.vl (.sv (.bool y0))) [] [])
def g79R {α : Type} (G : S_g79 α) := rowK g79tp g79bp (g79K G)
def g79hd (G_g111 : {α : Type} → S_g111 α)  : Hd where
  call := fun f args Bs k => cond (Nat.beq f 111) (g111R G_g111 args Bs k) (none)
  loop := fun id st k => none
  ro := fun f => []
def g79h (m : Nat) : Hd := g79hd (g111 m)
theorem g79Main (G_g111 : {α : Type} → S_g111 α)  {α : Type} (ls : List Lf) (k : KRe α) :
    g79K (g79b G_g111) ls k = evFun tab (g79hd G_g111) Go.Proofs.Tryd.f79 (fillT g79tp ls).1 (fillB g79bp (fillT g79tp ls).2).1 k := by kernel_rfl
theorem g79Calls (m : Nat) : (g79h m).CallsOk Go.Proofs.Tryd.prog := (cok_cons (g111Ok m) cok_nil)
theorem g79Fn (m : Nat) : FnOk Go.Proofs.Tryd.prog 79 g79tp g79bp (fun {α} => g79K (g79 m (α := α))) :=
  fn_ok (tab := tab) (h := g79h m) (fn := Go.Proofs.Tryd.f79) (F := fun {α} => g79K (g79 m (α := α))) tabOk (g79Calls m) mixed (by kernel_rfl) (by kernel_rfl) (fun c hc => by
    rw [bodyOf_some hc]
    exact loopsOk_of _ (fun p hp => by rw [show loopsOf (bodyOf Go.Proofs.Tryd.f79) = [] by kernel_rfl] at hp; cases hp))
    (fun α ls k => g79Main (g111 m) ls k)
theorem g79Ok (m : Nat) : RowOk Go.Proofs.Tryd.prog 79 (fun {α} => g79R (g79 m (α := α))) := row_of (g79Fn m)
abbrev S_g80 (α : Type) : Type := Int → Int → Bool → (Bool → Option α) → Option α
def g80b {α : Type}   (p568 : Int) (p569 : Int) (q570 : Bool) (k576 : Bool → Option α) : Option α :=
  cond (!q570)
   (
    k576 (p568 == (0 : Int)))
   (
    cond (decide (p568 ≥ (0 : Int)))
     (
      k576 (decide ((IntKind.wrap .i64 p568) < p569)))
     (
      k576 false))
def g80 {α : Type} (m : Nat) : S_g80 α :=
  g80b
def g80tp : List TP := [(.vl (.sv (.int .i16))), (.vl (.sv (.int .i64))), (.vl (.sv .bool))]
def g80bp : List BP := []
def g80K {α : Type} (G : S_g80 α) (ls : List Lf) (k : KRe α) : Option α :=
  G (lf ls 0).int (lf ls 1).int (lf ls 2).bool
    (fun y0 => k (.vl (.sv (.bool y0))) [] [])
def g80R {α : Type} (G : S_g80 α) := rowK g80tp g80bp (g80K G)
def g80hd   : Hd where
  call := fun f args Bs k => none
  loop := fun id st k => none
  ro := fun f => []
def g80h (m : Nat) : Hd := g80hd
theorem g80Main   {α : Type} (ls : List Lf) (k : KRe α) :
    g80K (g80b) ls k = evFun tab (g80hd) Go.Proofs.Tryd.f80 (fillT g80tp ls).1 (fillB g80bp (fillT g80tp ls).2).1 k := by kernel_rfl
theorem g80Calls (m : Nat) : (g80h m).CallsOk Go.Proofs.Tryd.prog := cok_nil
theorem g80Fn (m : Nat) : FnOk Go.Proofs.Tryd.prog 80 g80tp g80bp (fun {α} => g80K (g80 m (α := α))) :=
  fn_ok (tab := tab) (h := g80h m) (fn := Go.Proofs.Tryd.f80) (F := fun {α} => g80K (g80 m (α := α))) tabOk (g80Calls m) mixed (by kernel_rfl) (by kernel_rfl) (fun c hc => by
    rw [bodyOf_some hc]
    exact loopsOk_of _ (fun p hp => by rw [show loopsOf (bodyOf Go.Proofs.Tryd.f80) = [] by kernel_rfl] at hp; cases hp))
    (fun α ls k => g80Main ls k)
theorem g80Ok (m : Nat) : RowOk Go.Proofs.Tryd.prog 80 (fun {α} => g80R (g80 m (α := α))) := row_of (g80Fn m)
abbrev S_g40 (α : Type) : Type := Ty1 → (Bool → Option α) → Option α
abbrev S_g40l0 (α : Type) : Type := Int → Ty1 → (Option α) → (Option α) → Int → Option α
def g40l0b {α : Type} (G_g74 : {α : Type} → S_g74 α) (G_g79 : {α : Type} → S_g79 α) (G_g80 : {α : Type} → S_g80 α)  (v525 : Int) (a527 : Ty1) (k582 : Option α) (k583 : Option α) (r584 : Int → Option α) (v526 : Int) : Option α :=
  cond (decide (v526 < v525))
   (
    if 0 ≤ v526 ∧ v526 < (a527.length : Nat) then
      if v526.toNat < a527.length then
        let x529 : Int := (List.getD a527 v526.toNat []).headD 0
        G_g74 x529
        (fun b546 b547 b548 =>
        cond (decide (x529 < (1 : Int)))
        (
        k582)
        (
        cond (decide (x529 > (12 : Int)))
        (
        k582)
        (
        G_g79 x529 ((List.getD a527 v526.toNat []).tail.tail.tail.headD 0) ((List.getD a527 v526.toNat []).tail.tail.tail.tail.headD 0)
        (fun b566 =>
        cond (!b566)
        (
        k582)
        (
        G_g80 ((List.getD a527 v526.toNat []).tail.headD 0) v526 b546
        (fun b577 =>
        cond (!b577)
        (
        k582)
        (
        G_g80 ((List.getD a527 v526.toNat []).tail.tail.headD 0) v526 b547
        (fun b579 =>
        cond (!b579)
        (
        k582)
        (
        r584 (IntKind.wrap .i64 (v526 + (1 : Int))))))))))))
      else
        none
    else
      none)
   (
    k583)
def g40l0 {α : Type} (G_g74 : {α : Type} → S_g74 α) (G_g79 : {α : Type} → S_g79 α) (G_g80 : {α : Type} → S_g80 α)  (v525 : Int) (a527 : Ty1) (k582 : Option α) (k583 : Option α) : Nat → Int → Option α
  | 0 => fun _ => none
  | m + 1 => fun v526 => g40l0b G_g74 G_g79 G_g80 v525 a527 k582 k583 (g40l0 G_g74 G_g79 G_g80 v525 a527 k582 k583 m) v526
def g40l0M {α : Type} (m : Nat) : S_g40l0 α :=
  fun v525 a527 k582 k583 v526 => g40l0 (g74 m) (g79 m) (g80 m) v525 a527 k582 k583 m v526
def g40l0D : LoopD := { n := 65, low := [0], sl := [16, 17, 18], bl := [0], tp := [(.vl (.sv (.gsl 0 5))), (.vl (.sv (.int .i64))), (.vl (.sv (.int .i64)))], bp := [(false, [(.gro (.rc [.i8, .i16, .i16, .i64, .i64]))])], xs := [(1, [2]), (2, [])] }
def g40l0K {α : Type} (L : S_g40l0 α) (ls : List Lf) (k : KEx α) : Option α :=
  L (lf ls 0).int ((lf ls 2).lst (.rc [.i8, .i16, .i16, .i64, .i64]))
    (k .ret (mkSt 65 [2] [(.vl (.sv (.bool false)))] [0] [(false, [(.gro (.rc [.i8, .i16, .i16, .i64, .i64]) ((lf ls 2).lst (.rc [.i8, .i16, .i16, .i64, .i64])))])]))
    (k .normal (mkSt 65 [] [] [0] [(false, [(.gro (.rc [.i8, .i16, .i16, .i64, .i64]) ((lf ls 2).lst (.rc [.i8, .i16, .i16, .i64, .i64])))])]))
    (lf ls 1).int
def g40b {α : Type} (G_g74 : {α : Type} → S_g74 α) (G_g79 : {α : Type} → S_g79 α) (G_g80 : {α : Type} → S_g80 α) (L_g40l0 : {α : Type} → S_g40l0 α) (u522 : Ty1) (k585 : Bool → Option α) : Option α :=
  cond (decide (((u522.length : Nat) : Int) < (1 : Int)))
   (
    k585 false)
   (
    cond (decide (((u522.length : Nat) : Int) > (40 : Int)))
     (
      k585 false)
     (
      L_g40l0 ((u522.length : Nat) : Int) u522
        (
        k585 false)
        (
        k585 true)
        (0 : Int)))
def g40 {α : Type} (m : Nat) : S_g40 α :=
  g40b (g74 m) (g79 m) (g80 m) (g40l0M m)
def g40tp : List TP := [(.vl (.sv (.gsl 0 5)))]
def g40bp : List BP := [(false, [(.gro (.rc [.i8, .i16, .i16, .i64, .i64]))])]
def g40K {α : Type} (G : S_g40 α) (ls : List Lf) (k : KRe α) : Option α :=
  G ((lf ls 0).lst (.rc [.i8, .i16, .i16, .i64, .i64]))
    (fun y0 => k (.vl (.sv (.bool y0))) [[(.gro (.rc [.i8, .i16, .i16, .i64, .i64]) ((lf ls 0).lst (.rc [.i8, .i16, .i16, .i64, .i64])))]] [])
def g40R {α : Type} (G : S_g40 α) := rowK g40tp g40bp (g40K G)
def g40hd (G_g74 : {α : Type} → S_g74 α) (G_g79 : {α : Type} → S_g79 α) (G_g80 : {α : Type} → S_g80 α) (L_g40l0 : {α : Type} → S_g40l0 α) : Hd where
  call := fun f args Bs k => cond (Nat.beq f 74) (g74R G_g74 args Bs k) (cond (Nat.beq f 79) (g79R G_g79 args Bs k) (cond (Nat.beq f 80) (g80R G_g80 args Bs k) (none)))
  loop := fun id st k => cond (Nat.beq id 0) (loopH g40l0D (g40l0K L_g40l0) st k) (none)
  ro := fun f => []
def g40h (m : Nat) : Hd := g40hd (g74 m) (g79 m) (g80 m) (g40l0M m)
theorem g40l0Step (G_g74 : {α : Type} → S_g74 α) (G_g79 : {α : Type} → S_g79 α) (G_g80 : {α : Type} → S_g80 α) (L_g40l0 : {α : Type} → S_g40l0 α) {α : Type} (L : S_g40l0 α) (ls : List Lf) (k : KEx α) :
    g40l0K (fun v525 a527 k582 k583 v526 => g40l0b G_g74 G_g79 G_g80 v525 a527 k582 k583 (L v525 a527 k582 k583) v526) ls k = ev tab (g40hd G_g74 G_g79 G_g80 L_g40l0) (bodyAt Go.Proofs.Tryd.f40 0) (atHead g40l0D ls) (loopK g40l0D 0 (loopH g40l0D (g40l0K L)) k) := by kernel_rfl
theorem g40Main (G_g74 : {α : Type} → S_g74 α) (G_g79 : {α : Type} → S_g79 α) (G_g80 : {α : Type} → S_g80 α) (L_g40l0 : {α : Type} → S_g40l0 α) {α : Type} (ls : List Lf) (k : KRe α) :
    g40K (g40b G_g74 G_g79 G_g80 L_g40l0) ls k = evFun tab (g40hd G_g74 G_g79 G_g80 L_g40l0) Go.Proofs.Tryd.f40 (fillT g40tp ls).1 (fillB g40bp (fillT g40tp ls).2).1 k := by kernel_rfl
theorem g40Calls (m : Nat) : (g40h m).CallsOk Go.Proofs.Tryd.prog := (cok_cons (g74Ok m) (cok_cons (g79Ok m) (cok_cons (g80Ok m) cok_nil)))
theorem g40l0Ok (m : Nat) (α : Type) (st : St) (k : KEx α) (r : α) (h : (g40h m).loop 0 st k = some r) :
    LoopS Go.Proofs.Tryd.prog 0 (bodyAt Go.Proofs.Tryd.f40 0) st k r :=
  loop_ok (tab := tab) (h := g40h m) (F := fun n ls k => g40l0K (fun v525 a527 k582 k583 v526 => g40l0 (g74 m) (g79 m) (g80 m) v525 a527 k582 k583 n v526) ls k) tabOk (g40Calls m) mixed (loopsOk_of _ (fun p hp => by rw [show loopsOf (bodyAt Go.Proofs.Tryd.f40 0) = [] by kernel_rfl] at hp; cases hp))
    (fun _ _ => rfl) (fun n ls k => g40l0Step (g74 m) (g79 m) (g80 m) (g40l0M m) (fun v525 a527 k582 k583 => g40l0 (g74 m) (g79 m) (g80 m) v525 a527 k582 k583 n) ls k) (n := m) h
theorem g40Fn (m : Nat) : FnOk Go.Proofs.Tryd.prog 40 g40tp g40bp (fun {α} => g40K (g40 m (α := α))) :=
  fn_ok (tab := tab) (h := g40h m) (fn := Go.Proofs.Tryd.f40) (F := fun {α} => g40K (g40 m (α := α))) tabOk (g40Calls m) mixed (by kernel_rfl) (by kernel_rfl) (fun c hc => by
    rw [bodyOf_some hc]
    exact loopsOk_of _ (fun p hp => by
    rw [show loopsOf (bodyOf Go.Proofs.Tryd.f40) = [(0, bodyAt Go.Proofs.Tryd.f40 0)] by kernel_rfl] at hp
    simp only [List.mem_cons, List.not_mem_nil, or_false] at hp
    rcases hp with rfl
    exact g40l0Ok m))
    (fun α ls k => g40Main (g74 m) (g79 m) (g80 m) (g40l0M m) ls k)
theorem g40Ok (m : Nat) : RowOk Go.Proofs.Tryd.prog 40 (fun {α} => g40R (g40 m (α := α))) := row_of (g40Fn m)
abbrev S_g82 (α : Type) : Type := Int → (ByteArray → Option α) → Option α
def g82b {α : Type}   (p616 : Int) (k618 : ByteArray → Option α) : Option α :=
  if 0 ≤ p616 ∧ p616 < (13 : Nat) then
    if (0 + p616.toNat) < 13 then
      k618 (List.getD [(⟨#[]⟩ : ByteArray), (⟨#[114, 97, 116, 105, 111]⟩ : ByteArray), (⟨#[115, 117, 109]⟩ : ByteArray), (⟨#[100, 105, 102, 102]⟩ : ByteArray), (⟨#[112, 114, 111, 100, 117, 99, 116]⟩ : ByteArray), (⟨#[113, 117, 111, 116, 105, 101, 110, 116]⟩ : ByteArray), (⟨#[110, 101, 103]⟩ : ByteArray), (⟨#[97, 98, 115]⟩ : ByteArray), (⟨#[109, 105, 110]⟩ : ByteArray), (⟨#[109, 97, 120]⟩ : ByteArray), (⟨#[114, 111, 111, 116]⟩ : ByteArray), (⟨#[112, 105]⟩ : ByteArray), (⟨#[101, 117, 108, 101, 114]⟩ : ByteArray)] (0 + p616.toNat) ⟨#[]⟩)
    else
      none
  else
    none
def g82 {α : Type} (m : Nat) : S_g82 α :=
  g82b
def g82tp : List TP := [(.vl (.sv (.int .i8)))]
def g82bp : List BP := []
def g82K {α : Type} (G : S_g82 α) (ls : List Lf) (k : KRe α) : Option α :=
  G (lf ls 0).int
    (fun y0 => k (.vl (.sv (.str y0))) [] [])
def g82R {α : Type} (G : S_g82 α) := rowK g82tp g82bp (g82K G)
def g82hd   : Hd where
  call := fun f args Bs k => none
  loop := fun id st k => none
  ro := fun f => []
def g82h (m : Nat) : Hd := g82hd
theorem g82Main   {α : Type} (ls : List Lf) (k : KRe α) :
    g82K (g82b) ls k = evFun tab (g82hd) Go.Proofs.Tryd.f82 (fillT g82tp ls).1 (fillB g82bp (fillT g82tp ls).2).1 k := by kernel_rfl
theorem g82Calls (m : Nat) : (g82h m).CallsOk Go.Proofs.Tryd.prog := cok_nil
theorem g82Fn (m : Nat) : FnOk Go.Proofs.Tryd.prog 82 g82tp g82bp (fun {α} => g82K (g82 m (α := α))) :=
  fn_ok (tab := tab) (h := g82h m) (fn := Go.Proofs.Tryd.f82) (F := fun {α} => g82K (g82 m (α := α))) tabOk (g82Calls m) mixed (by kernel_rfl) (by kernel_rfl) (fun c hc => by
    rw [bodyOf_some hc]
    exact loopsOk_of _ (fun p hp => by rw [show loopsOf (bodyOf Go.Proofs.Tryd.f82) = [] by kernel_rfl] at hp; cases hp))
    (fun α ls k => g82Main ls k)
theorem g82Ok (m : Nat) : RowOk Go.Proofs.Tryd.prog 82 (fun {α} => g82R (g82 m (α := α))) := row_of (g82Fn m)
abbrev S_g108 (α : Type) : Type := ByteArray → (Int → Option α) → Option α
abbrev S_g108l0 (α : Type) : Type := ByteArray → (Int → Option α) → (Option α) → Int → Option α
def g108l0b {α : Type} (G_g82 : {α : Type} → S_g82 α)  (z613 : ByteArray) (k622 : Int → Option α) (k623 : Option α) (r624 : Int → Option α) (v614 : Int) : Option α :=
  cond (decide (v614 ≤ (12 : Int)))
   (
    G_g82 v614
      (fun s619 =>
        cond (bytesEq s619 z613)
        (
        k622 v614)
        (
        r624 (IntKind.wrap .i8 (v614 + (1 : Int))))))
   (
    k623)
def g108l0 {α : Type} (G_g82 : {α : Type} → S_g82 α)  (z613 : ByteArray) (k622 : Int → Option α) (k623 : Option α) : Nat → Int → Option α
  | 0 => fun _ => none
  | m + 1 => fun v614 => g108l0b G_g82 z613 k622 k623 (g108l0 G_g82 z613 k622 k623 m) v614
def g108l0M {α : Type} (m : Nat) : S_g108l0 α :=
  fun z613 k622 k623 v614 => g108l0 (g82 m) z613 k622 k623 m v614
def g108l0D : LoopD := { n := 13, low := [], sl := [0, 3], bl := [], tp := [(.vl (.sv .str)), (.vl (.sv (.int .i8)))], bp := [], xs := [(1, [2]), (2, [])] }
def g108l0K {α : Type} (L : S_g108l0 α) (ls : List Lf) (k : KEx α) : Option α :=
  L (lf ls 0).str
    (fun y0 => k .ret (mkSt 13 [2] [(.vl (.sv (.int .i8 y0)))] [] []))
    (k .normal (mkSt 13 [] [] [] []))
    (lf ls 1).int
def g108b {α : Type} (G_g82 : {α : Type} → S_g82 α) (L_g108l0 : {α : Type} → S_g108l0 α) (z612 : ByteArray) (k626 : Int → Option α) : Option α :=
  L_g108l0 z612
    (fun x625 =>
      k626 x625)
    (
      k626 (0 : Int))
    (1 : Int)
def g108 {α : Type} (m : Nat) : S_g108 α :=
  g108b (g82 m) (g108l0M m)
def g108tp : List TP := [(.vl (.sv .str))]
def g108bp : List BP := []
def g108K {α : Type} (G : S_g108 α) (ls : List Lf) (k : KRe α) : Option α :=
  G (lf ls 0).str
    (fun y0 => k (.vl (.sv (.int .i8 y0))) [] [])
def g108R {α : Type} (G : S_g108 α) := rowK g108tp g108bp (g108K G)
def g108hd (G_g82 : {α : Type} → S_g82 α) (L_g108l0 : {α : Type} → S_g108l0 α) : Hd where
  call := fun f args Bs k => cond (Nat.beq f 82) (g82R G_g82 args Bs k) (none)
  loop := fun id st k => cond (Nat.beq id 0) (loopH g108l0D (g108l0K L_g108l0) st k) (none)
  ro := fun f => []
def g108h (m : Nat) : Hd := g108hd (g82 m) (g108l0M m)
theorem g108l0Step (G_g82 : {α : Type} → S_g82 α) (L_g108l0 : {α : Type} → S_g108l0 α) {α : Type} (L : S_g108l0 α) (ls : List Lf) (k : KEx α) :
    g108l0K (fun z613 k622 k623 v614 => g108l0b G_g82 z613 k622 k623 (L z613 k622 k623) v614) ls k = ev tab (g108hd G_g82 L_g108l0) (bodyAt Go.Proofs.Tryd.f108 0) (atHead g108l0D ls) (loopK g108l0D 0 (loopH g108l0D (g108l0K L)) k) := by kernel_rfl
theorem g108Main (G_g82 : {α : Type} → S_g82 α) (L_g108l0 : {α : Type} → S_g108l0 α) {α : Type} (ls : List Lf) (k : KRe α) :
    g108K (g108b G_g82 L_g108l0) ls k = evFun tab (g108hd G_g82 L_g108l0) Go.Proofs.Tryd.f108 (fillT g108tp ls).1 (fillB g108bp (fillT g108tp ls).2).1 k := by kernel_rfl
theorem g108Calls (m : Nat) : (g108h m).CallsOk Go.Proofs.Tryd.prog := (cok_cons (g82Ok m) cok_nil)
theorem g108l0Ok (m : Nat) (α : Type) (st : St) (k : KEx α) (r : α) (h : (g108h m).loop 0 st k = some r) :
    LoopS Go.Proofs.Tryd.prog 0 (bodyAt Go.Proofs.Tryd.f108 0) st k r :=
  loop_ok (tab := tab) (h := g108h m) (F := fun n ls k => g108l0K (fun z613 k622 k623 v614 => g108l0 (g82 m) z613 k622 k623 n v614) ls k) tabOk (g108Calls m) mixed (loopsOk_of _ (fun p hp => by rw [show loopsOf (bodyAt Go.Proofs.Tryd.f108 0) = [] by kernel_rfl] at hp; cases hp))
    (fun _ _ => rfl) (fun n ls k => g108l0Step (g82 m) (g108l0M m) (fun z613 k622 k623 => g108l0 (g82 m) z613 k622 k623 n) ls k) (n := m) h
theorem g108Fn (m : Nat) : FnOk Go.Proofs.Tryd.prog 108 g108tp g108bp (fun {α} => g108K (g108 m (α := α))) :=
  fn_ok (tab := tab) (h := g108h m) (fn := Go.Proofs.Tryd.f108) (F := fun {α} => g108K (g108 m (α := α))) tabOk (g108Calls m) mixed (by kernel_rfl) (by kernel_rfl) (fun c hc => by
    rw [bodyOf_some hc]
    exact loopsOk_of _ (fun p hp => by
    rw [show loopsOf (bodyOf Go.Proofs.Tryd.f108) = [(0, bodyAt Go.Proofs.Tryd.f108 0)] by kernel_rfl] at hp
    simp only [List.mem_cons, List.not_mem_nil, or_false] at hp
    rcases hp with rfl
    exact g108l0Ok m))
    (fun α ls k => g108Main (g82 m) (g108l0M m) ls k)
theorem g108Ok (m : Nat) : RowOk Go.Proofs.Tryd.prog 108 (fun {α} => g108R (g108 m (α := α))) := row_of (g108Fn m)
abbrev S_g136 (α : Type) : Type := Int → (Int → Option α) → Option α
def g136b {α : Type}   (p653 : Int) (k700 : Int → Option α) : Option α :=
  cond (decide (p653 ≥ (4294967296 : Int)))
   (
    let x655 : Int := Int.fdiv p653 (2 ^ 32)
    cond (decide (x655 ≥ (65536 : Int)))
     (
      let x657 : Int := Int.fdiv x655 (2 ^ 16)
      cond (decide (x657 ≥ (256 : Int)))
       (
        let x660 : Int := IntKind.wrap .u8 (Int.fdiv x657 (2 ^ 8))
        if 0 ≤ x660 ∧ x660 < strC0.size then
        k700 (IntKind.wrap .i64 ((56 : Int) + (IntKind.wrap .i64 (byteAt strC0 x660.toNat))))
        else
        none)
       (
        let x664 : Int := IntKind.wrap .u8 x657
        if 0 ≤ x664 ∧ x664 < strC0.size then
        k700 (IntKind.wrap .i64 ((48 : Int) + (IntKind.wrap .i64 (byteAt strC0 x664.toNat))))
        else
        none))
     (
      cond (decide (x655 ≥ (256 : Int)))
       (
        let x670 : Int := IntKind.wrap .u8 (Int.fdiv x655 (2 ^ 8))
        if 0 ≤ x670 ∧ x670 < strC0.size then
        k700 (IntKind.wrap .i64 ((40 : Int) + (IntKind.wrap .i64 (byteAt strC0 x670.toNat))))
        else
        none)
       (
        let x674 : Int := IntKind.wrap .u8 x655
        if 0 ≤ x674 ∧ x674 < strC0.size then
        k700 (IntKind.wrap .i64 ((32 : Int) + (IntKind.wrap .i64 (byteAt strC0 x674.toNat))))
        else
        none)))
   (
    cond (decide (p653 ≥ (65536 : Int)))
     (
      let x679 : Int := Int.fdiv p653 (2 ^ 16)
      cond (decide (x679 ≥ (256 : Int)))
       (
        let x682 : Int := IntKind.wrap .u8 (Int.fdiv x679 (2 ^ 8))
        if 0 ≤ x682 ∧ x682 < strC0.size then
        k700 (IntKind.wrap .i64 ((24 : Int) + (IntKind.wrap .i64 (byteAt strC0 x682.toNat))))
        else
        none)
       (
        let x686 : Int := IntKind.wrap .u8 x679
        if 0 ≤ x686 ∧ x686 < strC0.size then
        k700 (IntKind.wrap .i64 ((16 : Int) + (IntKind.wrap .i64 (byteAt strC0 x686.toNat))))
        else
        none))
     (
      cond (decide (p653 ≥ (256 : Int)))
       (
        let x692 : Int := IntKind.wrap .u8 (Int.fdiv p653 (2 ^ 8))
        if 0 ≤ x692 ∧ x692 < strC0.size then
        k700 (IntKind.wrap .i64 ((8 : Int) + (IntKind.wrap .i64 (byteAt strC0 x692.toNat))))
        else
        none)
       (
        let x696 : Int := IntKind.wrap .u8 p653
        if 0 ≤ x696 ∧ x696 < strC0.size then
        k700 (IntKind.wrap .i64 ((0 : Int) + (IntKind.wrap .i64 (byteAt strC0 x696.toNat))))
        else
        none)))
def g136 {α : Type} (m : Nat) : S_g136 α :=
  g136b
def g136tp : List TP := [(.vl (.sv (.int .u64)))]
def g136bp : List BP := []
def g136K {α : Type} (G : S_g136 α) (ls : List Lf) (k : KRe α) : Option α :=
  G (lf ls 0).int
    (fun y0 => k (.vl (.sv (.int .i64 y0))) [] [])
def g136R {α : Type} (G : S_g136 α) := rowK g136tp g136bp (g136K G)
def g136hd   : Hd where
  call := fun f args Bs k => none
  loop := fun id st k => none
  ro := fun f => []
def g136h (m : Nat) : Hd := g136hd
theorem g136Main   {α : Type} (ls : List Lf) (k : KRe α) :
    g136K (g136b) ls k = evFun tab (g136hd) Go.Proofs.Tryd.f136 (fillT g136tp ls).1 (fillB g136bp (fillT g136tp ls).2).1 k := by kernel_rfl
theorem g136Calls (m : Nat) : (g136h m).CallsOk Go.Proofs.Tryd.prog := cok_nil
theorem g136Fn (m : Nat) : FnOk Go.Proofs.Tryd.prog 136 g136tp g136bp (fun {α} => g136K (g136 m (α := α))) :=
  fn_ok (tab := tab) (h := g136h m) (fn := Go.Proofs.Tryd.f136) (F := fun {α} => g136K (g136 m (α := α))) tabOk (g136Calls m) mixed (by kernel_rfl) (by kernel_rfl) (fun c hc => by
    rw [bodyOf_some hc]
    exact loopsOk_of _ (fun p hp => by rw [show loopsOf (bodyOf Go.Proofs.Tryd.f136) = [] by kernel_rfl] at hp; cases hp))
    (fun α ls k => g136Main ls k)
theorem g136Ok (m : Nat) : RowOk Go.Proofs.Tryd.prog 136 (fun {α} => g136R (g136 m (α := α))) := row_of (g136Fn m)
abbrev S_g135 (α : Type) : Type := Int → (Int → Option α) → Option α
def g135b {α : Type}   (p702 : Int) (k705 : Int → Option α) : Option α :=
  k705 (Int.fdiv (IntKind.wrap .i64 (p702 * (78913 : Int))) (2 ^ 18))
def g135 {α : Type} (m : Nat) : S_g135 α :=
  g135b
def g135tp : List TP := [(.vl (.sv (.int .i64)))]
def g135bp : List BP := []
def g135K {α : Type} (G : S_g135 α) (ls : List Lf) (k : KRe α) : Option α :=
  G (lf ls 0).int
    (fun y0 => k (.vl (.sv (.int .i64 y0))) [] [])
def g135R {α : Type} (G : S_g135 α) := rowK g135tp g135bp (g135K G)
def g135hd   : Hd where
  call := fun f args Bs k => none
  loop := fun id st k => none
  ro := fun f => []
def g135h (m : Nat) : Hd := g135hd
theorem g135Main   {α : Type} (ls : List Lf) (k : KRe α) :
    g135K (g135b) ls k = evFun tab (g135hd) Go.Proofs.Tryd.f135 (fillT g135tp ls).1 (fillB g135bp (fillT g135tp ls).2).1 k := by kernel_rfl
theorem g135Calls (m : Nat) : (g135h m).CallsOk Go.Proofs.Tryd.prog := cok_nil
theorem g135Fn (m : Nat) : FnOk Go.Proofs.Tryd.prog 135 g135tp g135bp (fun {α} => g135K (g135 m (α := α))) :=
  fn_ok (tab := tab) (h := g135h m) (fn := Go.Proofs.Tryd.f135) (F := fun {α} => g135K (g135 m (α := α))) tabOk (g135Calls m) mixed (by kernel_rfl) (by kernel_rfl) (fun c hc => by
    rw [bodyOf_some hc]
    exact loopsOk_of _ (fun p hp => by rw [show loopsOf (bodyOf Go.Proofs.Tryd.f135) = [] by kernel_rfl] at hp; cases hp))
    (fun α ls k => g135Main ls k)
theorem g135Ok (m : Nat) : RowOk Go.Proofs.Tryd.prog 135 (fun {α} => g135R (g135 m (α := α))) := row_of (g135Fn m)
abbrev S_g137 (α : Type) : Type := Bool → (Int → Option α) → Option α
def g137b {α : Type}   (q709 : Bool) (k710 : Int → Option α) : Option α :=
  cond q709
   (
    k710 (1 : Int))
   (
    k710 (0 : Int))
def g137 {α : Type} (m : Nat) : S_g137 α :=
  g137b
def g137tp : List TP := [(.vl (.sv .bool))]
def g137bp : List BP := []
def g137K {α : Type} (G : S_g137 α) (ls : List Lf) (k : KRe α) : Option α :=
  G (lf ls 0).bool
    (fun y0 => k (.vl (.sv (.int .i64 y0))) [] [])
def g137R {α : Type} (G : S_g137 α) := rowK g137tp g137bp (g137K G)
def g137hd   : Hd where
  call := fun f args Bs k => none
  loop := fun id st k => none
  ro := fun f => []
def g137h (m : Nat) : Hd := g137hd
theorem g137Main   {α : Type} (ls : List Lf) (k : KRe α) :
    g137K (g137b) ls k = evFun tab (g137hd) Go.Proofs.Tryd.f137 (fillT g137tp ls).1 (fillB g137bp (fillT g137tp ls).2).1 k := by kernel_rfl
theorem g137Calls (m : Nat) : (g137h m).CallsOk Go.Proofs.Tryd.prog := cok_nil
theorem g137Fn (m : Nat) : FnOk Go.Proofs.Tryd.prog 137 g137tp g137bp (fun {α} => g137K (g137 m (α := α))) :=
  fn_ok (tab := tab) (h := g137h m) (fn := Go.Proofs.Tryd.f137) (F := fun {α} => g137K (g137 m (α := α))) tabOk (g137Calls m) mixed (by kernel_rfl) (by kernel_rfl) (fun c hc => by
    rw [bodyOf_some hc]
    exact loopsOk_of _ (fun p hp => by rw [show loopsOf (bodyOf Go.Proofs.Tryd.f137) = [] by kernel_rfl] at hp; cases hp))
    (fun α ls k => g137Main ls k)
theorem g137Ok (m : Nat) : RowOk Go.Proofs.Tryd.prog 137 (fun {α} => g137R (g137 m (α := α))) := row_of (g137Fn m)
abbrev S_g127 (α : Type) : Type := Int → (Int → Option α) → Option α
def g127b {α : Type} (G_g136 : {α : Type} → S_g136 α) (G_g135 : {α : Type} → S_g135 α) (G_g137 : {α : Type} → S_g137 α)  (p652 : Int) (k713 : Int → Option α) : Option α :=
  G_g136 p652
    (fun x701 =>
      G_g135 x701
        (fun x706 =>
        if 0 ≤ x706 ∧ x706 < (20 : Nat) then
        if x706.toNat < pow10L.length then
        G_g137 (decide (p652 ≥ (List.getD pow10L (x706.toNat) 0)))
        (fun x711 =>
        k713 (IntKind.wrap .i64 (x706 + x711)))
        else
        none
        else
        none))
def g127 {α : Type} (m : Nat) : S_g127 α :=
  g127b (g136 m) (g135 m) (g137 m)
def g127tp : List TP := [(.vl (.sv (.int .u64)))]
def g127bp : List BP := []
def g127K {α : Type} (G : S_g127 α) (ls : List Lf) (k : KRe α) : Option α :=
  G (lf ls 0).int
    (fun y0 => k (.vl (.sv (.int .i64 y0))) [] [])
def g127R {α : Type} (G : S_g127 α) := rowK g127tp g127bp (g127K G)
def g127hd (G_g136 : {α : Type} → S_g136 α) (G_g135 : {α : Type} → S_g135 α) (G_g137 : {α : Type} → S_g137 α)  : Hd where
  call := fun f args Bs k => cond (Nat.beq f 136) (g136R G_g136 args Bs k) (cond (Nat.beq f 135) (g135R G_g135 args Bs k) (cond (Nat.beq f 137) (g137R G_g137 args Bs k) (none)))
  loop := fun id st k => none
  ro := fun f => []
def g127h (m : Nat) : Hd := g127hd (g136 m) (g135 m) (g137 m)
theorem g127Main (G_g136 : {α : Type} → S_g136 α) (G_g135 : {α : Type} → S_g135 α) (G_g137 : {α : Type} → S_g137 α)  {α : Type} (ls : List Lf) (k : KRe α) :
    g127K (g127b G_g136 G_g135 G_g137) ls k = evFun tab (g127hd G_g136 G_g135 G_g137) Go.Proofs.Tryd.f127 (fillT g127tp ls).1 (fillB g127bp (fillT g127tp ls).2).1 k := by kernel_rfl
theorem g127Calls (m : Nat) : (g127h m).CallsOk Go.Proofs.Tryd.prog := (cok_cons (g136Ok m) (cok_cons (g135Ok m) (cok_cons (g137Ok m) cok_nil)))
theorem g127Fn (m : Nat) : FnOk Go.Proofs.Tryd.prog 127 g127tp g127bp (fun {α} => g127K (g127 m (α := α))) :=
  fn_ok (tab := tab) (h := g127h m) (fn := Go.Proofs.Tryd.f127) (F := fun {α} => g127K (g127 m (α := α))) tabOk (g127Calls m) mixed (by kernel_rfl) (by kernel_rfl) (fun c hc => by
    rw [bodyOf_some hc]
    exact loopsOk_of _ (fun p hp => by rw [show loopsOf (bodyOf Go.Proofs.Tryd.f127) = [] by kernel_rfl] at hp; cases hp))
    (fun α ls k => g127Main (g136 m) (g135 m) (g137 m) ls k)
theorem g127Ok (m : Nat) : RowOk Go.Proofs.Tryd.prog 127 (fun {α} => g127R (g127 m (α := α))) := row_of (g127Fn m)
abbrev S_g128 (α : Type) : Type := Nat → Nat → Nat → Int → (List Int) → ((List Int) → Option α) → Option α
abbrev S_g128l0 (α : Type) : Type := Nat → Nat → Nat → (Int → Int → (List Int) → Option α) → Int → Int → (List Int) → Option α
def g128l0b {α : Type}   (m722 : Nat) (m723 : Nat) (m724 : Nat) (k771 : Int → Int → (List Int) → Option α) (r772 : Int → Int → (List Int) → Option α) (v725 : Int) (v726 : Int) (a727 : List Int) : Option α :=
  cond (decide (v726 ≥ (8 : Int)))
   (
    let x730 : Int := IntKind.wrap .u32 (Int.tmod v725 (100000000 : Int))
    let x732 : Int := IntKind.wrap .u32 (Int.tdiv x730 (10000 : Int))
    let x733 : Int := Int.tmod x730 (10000 : Int)
    let x735 : Int := IntKind.wrap .u32 ((IntKind.wrap .u32 (Int.tdiv x733 (100 : Int))) * (2 : Int))
    let x737 : Int := IntKind.wrap .u32 ((Int.tmod x733 (100 : Int)) * (2 : Int))
    let x739 : Int := IntKind.wrap .u32 ((IntKind.wrap .u32 (Int.tdiv x732 (100 : Int))) * (2 : Int))
    let x741 : Int := IntKind.wrap .u32 ((Int.tmod x732 (100 : Int)) * (2 : Int))
    let x742 : Int := IntKind.wrap .i64 (v726 - (1 : Int))
    let x743 : Int := IntKind.wrap .i64 (v726 - (2 : Int))
    let x744 : Int := IntKind.wrap .u32 (x737 + (1 : Int))
    if 0 ≤ x744 ∧ x744 < strC2.size then
      if 0 ≤ x737 ∧ x737 < strC2.size then
        if 0 ≤ x742 ∧ x742 < (m723 : Nat) then
        if (m722 + x742.toNat) < 24 then
        if 0 ≤ x743 ∧ x743 < (m723 : Nat) then
        if (m722 + x743.toNat) < 24 then
        let x749 : Int := IntKind.wrap .i64 (v726 - (3 : Int))
        let x750 : Int := IntKind.wrap .i64 (v726 - (4 : Int))
        let x751 : Int := IntKind.wrap .u32 (x735 + (1 : Int))
        if 0 ≤ x751 ∧ x751 < strC2.size then
        if 0 ≤ x735 ∧ x735 < strC2.size then
        if 0 ≤ x749 ∧ x749 < (m723 : Nat) then
        if (m722 + x749.toNat) < 24 then
        if 0 ≤ x750 ∧ x750 < (m723 : Nat) then
        if (m722 + x750.toNat) < 24 then
        let x756 : Int := IntKind.wrap .i64 (v726 - (5 : Int))
        let x757 : Int := IntKind.wrap .i64 (v726 - (6 : Int))
        let x758 : Int := IntKind.wrap .u32 (x741 + (1 : Int))
        if 0 ≤ x758 ∧ x758 < strC2.size then
        if 0 ≤ x741 ∧ x741 < strC2.size then
        if 0 ≤ x756 ∧ x756 < (m723 : Nat) then
        if (m722 + x756.toNat) < 24 then
        if 0 ≤ x757 ∧ x757 < (m723 : Nat) then
        if (m722 + x757.toNat) < 24 then
        let x763 : Int := IntKind.wrap .i64 (v726 - (7 : Int))
        let x764 : Int := IntKind.wrap .i64 (v726 - (8 : Int))
        let x765 : Int := IntKind.wrap .u32 (x739 + (1 : Int))
        if 0 ≤ x765 ∧ x765 < strC2.size then
        if 0 ≤ x739 ∧ x739 < strC2.size then
        if 0 ≤ x763 ∧ x763 < (m723 : Nat) then
        if (m722 + x763.toNat) < 24 then
        if 0 ≤ x764 ∧ x764 < (m723 : Nat) then
        if (m722 + x764.toNat) < 24 then
        r772 (IntKind.wrap .u64 (Int.tdiv v725 (100000000 : Int))) (IntKind.wrap .i64 (v726 - (8 : Int))) (List.set (List.set (List.set (List.set (List.set (List.set (List.set (List.set a727 (m722 + x742.toNat) (byteAt strC2 x744.toNat)) (m722 + x743.toNat) (byteAt strC2 x737.toNat)) (m722 + x749.toNat) (byteAt strC2 x751.toNat)) (m722 + x750.toNat) (byteAt strC2 x735.toNat)) (m722 + x756.toNat) (byteAt strC2 x758.toNat)) (m722 + x757.toNat) (byteAt strC2 x741.toNat)) (m722 + x763.toNat) (byteAt strC2 x765.toNat)) (m722 + x764.toNat) (byteAt strC2 x739.toNat))
        else
        none
        else
        none
        else
        none
        else
        none
        else
        none
        else
        none
        else
        none
        else
        none
        else
        none
        else
        none
        else
        none
        else
        none
        else
        none
        else
        none
        else
        none
        else
        none
        else
        none
        else
        none
        else
        none
        else
        none
        else
        none
        else
        none
      else
        none
    else
      none)
   (
    k771 v725 v726 a727)
def g128l0 {α : Type}   (m722 : Nat) (m723 : Nat) (m724 : Nat) (k771 : Int → Int → (List Int) → Option α) : Nat → Int → Int → (List Int) → Option α
  | 0 => fun _ _ _ => none
  | m + 1 => fun v725 v726 a727 => g128l0b m722 m723 m724 k771 (g128l0 m722 m723 m724 k771 m) v725 v726 a727
def g128l0M {α : Type} (m : Nat) : S_g128l0 α :=
  fun m722 m723 m724 k771 v725 v726 a727 => g128l0 m722 m723 m724 k771 m v725 v726 a727
def g128l0D : LoopD := { n := 167, low := [0], sl := [0, 1, 4], bl := [0], tp := [(.vl (.sv (.slc 0 0 1))), (.vl (.sv (.int .u64))), (.vl (.sv (.int .i64)))], bp := [(true, [(.seq (.int .u8) 24)])], xs := [(2, [0, 1, 4])] }
def g128l0K {α : Type} (L : S_g128l0 α) (ls : List Lf) (k : KEx α) : Option α :=
  L (lf ls 0).nat (lf ls 1).nat (lf ls 2).nat
    (fun y3 y4 y5 => k .normal (mkSt 167 [0, 1, 4] [(.vl (.sv (.slc 0 0 1 (lf ls 0).nat (lf ls 1).nat (lf ls 2).nat))), (.vl (.sv (.int .u64 y3))), (.vl (.sv (.int .i64 y4)))] [0] [(true, [(.seq (.int .u8) 24 y5)])]))
    (lf ls 3).int (lf ls 4).int ((lf ls 5).lst (.int .u8))
def g128b {α : Type}  (L_g128l0 : {α : Type} → S_g128l0 α) (m717 : Nat) (m718 : Nat) (m719 : Nat) (p720 : Int) (u721 : List Int) (k839 : (List Int) → Option α) : Option α :=
  L_g128l0 m717 m718 m719
    (fun x773 x774 l775 =>
      let x776 : Int := IntKind.wrap .u32 x773
      cond (decide (x774 ≥ (4 : Int)))
       (
        let x778 : Int := Int.tmod x776 (10000 : Int)
        let x779 : Int := IntKind.wrap .u32 (Int.tdiv x776 (10000 : Int))
        let x781 : Int := IntKind.wrap .u32 ((IntKind.wrap .u32 (Int.tdiv x778 (100 : Int))) * (2 : Int))
        let x783 : Int := IntKind.wrap .u32 ((Int.tmod x778 (100 : Int)) * (2 : Int))
        let x784 : Int := IntKind.wrap .i64 (x774 - (1 : Int))
        let x785 : Int := IntKind.wrap .i64 (x774 - (2 : Int))
        let x786 : Int := IntKind.wrap .u32 (x783 + (1 : Int))
        if 0 ≤ x786 ∧ x786 < strC2.size then
        if 0 ≤ x783 ∧ x783 < strC2.size then
        if 0 ≤ x784 ∧ x784 < (m718 : Nat) then
        if (m717 + x784.toNat) < 24 then
        if 0 ≤ x785 ∧ x785 < (m718 : Nat) then
        if (m717 + x785.toNat) < 24 then
        let x791 : Int := IntKind.wrap .i64 (x774 - (3 : Int))
        let x792 : Int := IntKind.wrap .i64 (x774 - (4 : Int))
        let x793 : Int := IntKind.wrap .u32 (x781 + (1 : Int))
        if 0 ≤ x793 ∧ x793 < strC2.size then
        if 0 ≤ x781 ∧ x781 < strC2.size then
        if 0 ≤ x791 ∧ x791 < (m718 : Nat) then
        if (m717 + x791.toNat) < 24 then
        if 0 ≤ x792 ∧ x792 < (m718 : Nat) then
        if (m717 + x792.toNat) < 24 then
        let l797 : List Int := List.set (List.set (List.set (List.set l775 (m717 + x784.toNat) (byteAt strC2 x786.toNat)) (m717 + x785.toNat) (byteAt strC2 x783.toNat)) (m717 + x791.toNat) (byteAt strC2 x793.toNat)) (m717 + x792.toNat) (byteAt strC2 x781.toNat)
        let x798 : Int := IntKind.wrap .i64 (x774 - (4 : Int))
        cond (decide (x798 ≥ (2 : Int)))
        (
        let x801 : Int := IntKind.wrap .u32 ((Int.tmod x779 (100 : Int)) * (2 : Int))
        let x803 : Int := IntKind.wrap .i64 (x798 - (1 : Int))
        let x804 : Int := IntKind.wrap .i64 (x798 - (2 : Int))
        let x805 : Int := IntKind.wrap .u32 (x801 + (1 : Int))
        if 0 ≤ x805 ∧ x805 < strC2.size then
        if 0 ≤ x801 ∧ x801 < strC2.size then
        if 0 ≤ x803 ∧ x803 < (m718 : Nat) then
        if (m717 + x803.toNat) < 24 then
        if 0 ≤ x804 ∧ x804 < (m718 : Nat) then
        if (m717 + x804.toNat) < 24 then
        let l809 : List Int := List.set (List.set l797 (m717 + x803.toNat) (byteAt strC2 x805.toNat)) (m717 + x804.toNat) (byteAt strC2 x801.toNat)
        cond (decide ((IntKind.wrap .i64 (x798 - (2 : Int))) > (0 : Int)))
        (
        if 0 ≤ (0 : Int) ∧ (0 : Int) < (m718 : Nat) then
        if (m717 + 0) < 24 then
        k839 (List.set l809 (m717 + 0) (IntKind.wrap .u8 (IntKind.wrap .u32 ((48 : Int) + (IntKind.wrap .u32 (Int.tdiv x779 (100 : Int)))))))
        else
        none
        else
        none)
        (
        k839 l809)
        else
        none
        else
        none
        else
        none
        else
        none
        else
        none
        else
        none)
        (
        cond (decide (x798 > (0 : Int)))
        (
        if 0 ≤ (0 : Int) ∧ (0 : Int) < (m718 : Nat) then
        if (m717 + 0) < 24 then
        k839 (List.set l797 (m717 + 0) (IntKind.wrap .u8 (IntKind.wrap .u32 ((48 : Int) + x779))))
        else
        none
        else
        none)
        (
        k839 l797))
        else
        none
        else
        none
        else
        none
        else
        none
        else
        none
        else
        none
        else
        none
        else
        none
        else
        none
        else
        none
        else
        none
        else
        none)
       (
        cond (decide (x774 ≥ (2 : Int)))
        (
        let x821 : Int := IntKind.wrap .u32 ((Int.tmod x776 (100 : Int)) * (2 : Int))
        let x823 : Int := IntKind.wrap .i64 (x774 - (1 : Int))
        let x824 : Int := IntKind.wrap .i64 (x774 - (2 : Int))
        let x825 : Int := IntKind.wrap .u32 (x821 + (1 : Int))
        if 0 ≤ x825 ∧ x825 < strC2.size then
        if 0 ≤ x821 ∧ x821 < strC2.size then
        if 0 ≤ x823 ∧ x823 < (m718 : Nat) then
        if (m717 + x823.toNat) < 24 then
        if 0 ≤ x824 ∧ x824 < (m718 : Nat) then
        if (m717 + x824.toNat) < 24 then
        let l829 : List Int := List.set (List.set l775 (m717 + x823.toNat) (byteAt strC2 x825.toNat)) (m717 + x824.toNat) (byteAt strC2 x821.toNat)
        cond (decide ((IntKind.wrap .i64 (x774 - (2 : Int))) > (0 : Int)))
        (
        if 0 ≤ (0 : Int) ∧ (0 : Int) < (m718 : Nat) then
        if (m717 + 0) < 24 then
        k839 (List.set l829 (m717 + 0) (IntKind.wrap .u8 (IntKind.wrap .u32 ((48 : Int) + (IntKind.wrap .u32 (Int.tdiv x776 (100 : Int)))))))
        else
        none
        else
        none)
        (
        k839 l829)
        else
        none
        else
        none
        else
        none
        else
        none
        else
        none
        else
        none)
        (
        cond (decide (x774 > (0 : Int)))
        (
        if 0 ≤ (0 : Int) ∧ (0 : Int) < (m718 : Nat) then
        if (m717 + 0) < 24 then
        k839 (List.set l775 (m717 + 0) (IntKind.wrap .u8 (IntKind.wrap .u32 ((48 : Int) + x776))))
        else
        none
        else
        none)
        (
        k839 l775))))
    p720 ((m718 : Nat) : Int) u721
def g128 {α : Type} (m : Nat) : S_g128 α :=
  g128b (g128l0M m)
def g128tp : List TP := [(.vl (.sv (.slc 0 0 1))), (.vl (.sv (.int .u64)))]
def g128bp : List BP := [(true, [(.seq (.int .u8) 24)])]
def g128K {α : Type} (G : S_g128 α) (ls : List Lf) (k : KRe α) : Option α :=
  G (lf ls 0).nat (lf ls 1).nat (lf ls 2).nat (lf ls 3).int ((lf ls 4).lst (.int .u8))
    (fun y0 => k (.tup []) [[(.seq (.int .u8) 24 y0)]] [])
def g128R {α : Type} (G : S_g128 α) := rowK g128tp g128bp (g128K G)
def g128hd  (L_g128l0 : {α : Type} → S_g128l0 α) : Hd where
  call := fun f args Bs k => none
  loop := fun id st k => cond (Nat.beq id 0) (loopH g128l0D (g128l0K L_g128l0) st k) (none)
  ro := fun f => []
def g128h (m : Nat) : Hd := g128hd (g128l0M m)
theorem g128l0Step  (L_g128l0 : {α : Type} → S_g128l0 α) {α : Type} (L : S_g128l0 α) (ls : List Lf) (k : KEx α) :
    g128l0K (fun m722 m723 m724 k771 v725 v726 a727 => g128l0b m722 m723 m724 k771 (L m722 m723 m724 k771) v725 v726 a727) ls k = ev tab (g128hd L_g128l0) (bodyAt Go.Proofs.Tryd.f128 0) (atHead g128l0D ls) (loopK g128l0D 0 (loopH g128l0D (g128l0K L)) k) := by kernel_rfl
theorem g128Main  (L_g128l0 : {α : Type} → S_g128l0 α) {α : Type} (ls : List Lf) (k : KRe α) :
    g128K (g128b L_g128l0) ls k = evFun tab (g128hd L_g128l0) Go.Proofs.Tryd.f128 (fillT g128tp ls).1 (fillB g128bp (fillT g128tp ls).2).1 k := by kernel_rfl
theorem g128Calls (m : Nat) : (g128h m).CallsOk Go.Proofs.Tryd.prog := cok_nil
theorem g128l0Ok (m : Nat) (α : Type) (st : St) (k : KEx α) (r : α) (h : (g128h m).loop 0 st k = some r) :
    LoopS Go.Proofs.Tryd.prog 0 (bodyAt Go.Proofs.Tryd.f128 0) st k r :=
  loop_ok (tab := tab) (h := g128h m) (F := fun n ls k => g128l0K (fun m722 m723 m724 k771 v725 v726 a727 => g128l0 m722 m723 m724 k771 n v725 v726 a727) ls k) tabOk (g128Calls m) mixed (loopsOk_of _ (fun p hp => by rw [show loopsOf (bodyAt Go.Proofs.Tryd.f128 0) = [] by kernel_rfl] at hp; cases hp))
    (fun _ _ => rfl) (fun n ls k => g128l0Step (g128l0M m) (fun m722 m723 m724 k771 => g128l0 m722 m723 m724 k771 n) ls k) (n := m) h
theorem g128Fn (m : Nat) : FnOk Go.Proofs.Tryd.prog 128 g128tp g128bp (fun {α} => g128K (g128 m (α := α))) :=
  fn_ok (tab := tab) (h := g128h m) (fn := Go.Proofs.Tryd.f128) (F := fun {α} => g128K (g128 m (α := α))) tabOk (g128Calls m) mixed (by kernel_rfl) (by kernel_rfl) (fun c hc => by
    rw [bodyOf_some hc]
    exact loopsOk_of _ (fun p hp => by
    rw [show loopsOf (bodyOf Go.Proofs.Tryd.f128) = [(0, bodyAt Go.Proofs.Tryd.f128 0)] by kernel_rfl] at hp
    simp only [List.mem_cons, List.not_mem_nil, or_false] at hp
    rcases hp with rfl
    exact g128l0Ok m))
    (fun α ls k => g128Main (g128l0M m) ls k)
theorem g128Ok (m : Nat) : RowOk Go.Proofs.Tryd.prog 128 (fun {α} => g128R (g128 m (α := α))) := row_of (g128Fn m)
abbrev S_g114 (α : Type) : Type := Int → Int → (ByteArray → Option α) → Option α
def g114b {α : Type} (G_g126 : {α : Type} → S_g126 α) (G_g127 : {α : Type} → S_g127 α) (G_g128 : {α : Type} → S_g128 α)  (p643 : Int) (p644 : Int) (k890 : ByteArray → Option α) : Option α :=
  cond (p644 == (10 : Int))
   (
    cond (decide ((0 : Int) ≤ p643))
     (
      cond (decide (p643 < (100 : Int)))
       (
        G_g126 p643
        (fun s648 =>
        k890 s648))
       (
        let x649 : Int := IntKind.wrap .u64 p643
        cond (decide (p643 < (0 : Int)))
        (
        let x651 : Int := IntKind.wrap .u64 (0 - x649)
        G_g127 x651
        (fun x714 =>
        let x715 : Int := IntKind.wrap .i64 ((1 : Int) + x714)
        if 0 ≤ (1 : Int) ∧ (1 : Int) ≤ x715 ∧ x715 ≤ ((24 : Nat) : Int) then
        G_g128 1 ((Int.toNat x715) - 1) 23 x651 (List.replicate 24 0)
        (fun l840 =>
        cond (decide (p643 < (0 : Int)))
        (
        let x843 : Int := IntKind.wrap .i64 ((1 : Int) + x714)
        if 0 ≤ (0 : Int) ∧ (0 : Int) ≤ x843 ∧ x843 ≤ ((24 : Nat) : Int) then
        let n844 : Nat := (Int.toNat x843) - 0
        if 0 + n844 ≤ 24 then
        k890 (bytesS (List.take n844 (List.drop 0 (List.set l840 0 (45 : Int)))))
        else
        none
        else
        none)
        (
        let x846 : Int := IntKind.wrap .i64 ((1 : Int) + x714)
        if 0 ≤ (1 : Int) ∧ (1 : Int) ≤ x846 ∧ x846 ≤ ((24 : Nat) : Int) then
        let n847 : Nat := (Int.toNat x846) - 1
        if 1 + n847 ≤ 24 then
        k890 (bytesS (List.take n847 (List.drop 1 l840)))
        else
        none
        else
        none))
        else
        none))
        (
        G_g127 x649
        (fun x849 =>
        let x850 : Int := IntKind.wrap .i64 ((1 : Int) + x849)
        if 0 ≤ (1 : Int) ∧ (1 : Int) ≤ x850 ∧ x850 ≤ ((24 : Nat) : Int) then
        G_g128 1 ((Int.toNat x850) - 1) 23 x649 (List.replicate 24 0)
        (fun l852 =>
        cond (decide (p643 < (0 : Int)))
        (
        let x855 : Int := IntKind.wrap .i64 ((1 : Int) + x849)
        if 0 ≤ (0 : Int) ∧ (0 : Int) ≤ x855 ∧ x855 ≤ ((24 : Nat) : Int) then
        let n856 : Nat := (Int.toNat x855) - 0
        if 0 + n856 ≤ 24 then
        k890 (bytesS (List.take n856 (List.drop 0 (List.set l852 0 (45 : Int)))))
        else
        none
        else
        none)
        (
        let x858 : Int := IntKind.wrap .i64 ((1 : Int) + x849)
        if 0 ≤ (1 : Int) ∧ (1 : Int) ≤ x858 ∧ x858 ≤ ((24 : Nat) : Int) then
        let n859 : Nat := (Int.toNat x858) - 1
        if 1 + n859 ≤ 24 then
        k890 (bytesS (List.take n859 (List.drop 1 l852)))
        else
        none
        else
        none))
        else
        none))))
     (
      let x861 : Int := IntKind.wrap .u64 p643
      cond (decide (p643 < (0 : Int)))
       (
        let x863 : Int := IntKind.wrap .u64 (0 - x861)
        G_g127 x863
        (fun x864 =>
        let x865 : Int := IntKind.wrap .i64 ((1 : Int) + x864)
        if 0 ≤ (1 : Int) ∧ (1 : Int) ≤ x865 ∧ x865 ≤ ((24 : Nat) : Int) then
        G_g128 1 ((Int.toNat x865) - 1) 23 x863 (List.replicate 24 0)
        (fun l867 =>
        cond (decide (p643 < (0 : Int)))
        (
        let x870 : Int := IntKind.wrap .i64 ((1 : Int) + x864)
        if 0 ≤ (0 : Int) ∧ (0 : Int) ≤ x870 ∧ x870 ≤ ((24 : Nat) : Int) then
        let n871 : Nat := (Int.toNat x870) - 0
        if 0 + n871 ≤ 24 then
        k890 (bytesS (List.take n871 (List.drop 0 (List.set l867 0 (45 : Int)))))
        else
        none
        else
        none)
        (
        let x873 : Int := IntKind.wrap .i64 ((1 : Int) + x864)
        if 0 ≤ (1 : Int) ∧ (1 : Int) ≤ x873 ∧ x873 ≤ ((24 : Nat) : Int) then
        let n874 : Nat := (Int.toNat x873) - 1
        if 1 + n874 ≤ 24 then
        k890 (bytesS (List.take n874 (List.drop 1 l867)))
        else
        none
        else
        none))
        else
        none))
       (
        G_g127 x861
        (fun x876 =>
        let x877 : Int := IntKind.wrap .i64 ((1 : Int) + x876)
        if 0 ≤ (1 : Int) ∧ (1 : Int) ≤ x877 ∧ x877 ≤ ((24 : Nat) : Int) then
        G_g128 1 ((Int.toNat x877) - 1) 23 x861 (List.replicate 24 0)
        (fun l879 =>
        cond (decide (p643 < (0 : Int)))
        (
        let x882 : Int := IntKind.wrap .i64 ((1 : Int) + x876)
        if 0 ≤ (0 : Int) ∧ (0 : Int) ≤ x882 ∧ x882 ≤ ((24 : Nat) : Int) then
        let n883 : Nat := (Int.toNat x882) - 0
        if 0 + n883 ≤ 24 then
        k890 (bytesS (List.take n883 (List.drop 0 (List.set l879 0 (45 : Int)))))
        else
        none
        else
        none)
        (
        let x885 : Int := IntKind.wrap .i64 ((1 : Int) + x876)
        if 0 ≤ (1 : Int) ∧ (1 : Int) ≤ x885 ∧ x885 ≤ ((24 : Nat) : Int) then
        let n886 : Nat := (Int.toNat x885) - 1
        if 1 + n886 ≤ 24 then
        k890 (bytesS (List.take n886 (List.drop 1 l879)))
        else
        none
        else
        none))
        else
        none))))
   (
    none)
def g114 {α : Type} (m : Nat) : S_g114 α :=
  g114b (g126 m) (g127 m) (g128 m)
def g114tp : List TP := [(.vl (.sv (.int .i64))), (.vl (.sv (.int .i64)))]
def g114bp : List BP := []
def g114K {α : Type} (G : S_g114 α) (ls : List Lf) (k : KRe α) : Option α :=
  G (lf ls 0).int (lf ls 1).int
    (fun y0 => k (.vl (.sv (.str y0))) [] [])
def g114R {α : Type} (G : S_g114 α) := rowK g114tp g114bp (g114K G)
def g114hd (G_g126 : {α : Type} → S_g126 α) (G_g127 : {α : Type} → S_g127 α) (G_g128 : {α : Type} → S_g128 α)  : Hd where
  call := fun f args Bs k => cond (Nat.beq f 126) (g126R G_g126 args Bs k) (cond (Nat.beq f 127) (g127R G_g127 args Bs k) (cond (Nat.beq f 128) (g128R G_g128 args Bs k) (none)))
  loop := fun id st k => none
  ro := fun f => []
def g114h (m : Nat) : Hd := g114hd (g126 m) (g127 m) (g128 m)
theorem g114Main (G_g126 : {α : Type} → S_g126 α) (G_g127 : {α : Type} → S_g127 α) (G_g128 : {α : Type} → S_g128 α)  {α : Type} (ls : List Lf) (k : KRe α) :
    g114K (g114b G_g126 G_g127 G_g128) ls k = evFun tab (g114hd G_g126 G_g127 G_g128) Go.Proofs.Tryd.f114 (fillT g114tp ls).1 (fillB g114bp (fillT g114tp ls).2).1 k := by kernel_rfl
theorem g114Calls (m : Nat) : (g114h m).CallsOk Go.Proofs.Tryd.prog := (cok_cons (g126Ok m) (cok_cons (g127Ok m) (cok_cons (g128Ok m) cok_nil)))
theorem g114Fn (m : Nat) : FnOk Go.Proofs.Tryd.prog 114 g114tp g114bp (fun {α} => g114K (g114 m (α := α))) :=
  fn_ok (tab := tab) (h := g114h m) (fn := Go.Proofs.Tryd.f114) (F := fun {α} => g114K (g114 m (α := α))) tabOk (g114Calls m) mixed (by kernel_rfl) (by kernel_rfl) (fun c hc => by
    rw [bodyOf_some hc]
    exact loopsOk_of _ (fun p hp => by rw [show loopsOf (bodyOf Go.Proofs.Tryd.f114) = [] by kernel_rfl] at hp; cases hp))
    (fun α ls k => g114Main (g126 m) (g127 m) (g128 m) ls k)
theorem g114Ok (m : Nat) : RowOk Go.Proofs.Tryd.prog 114 (fun {α} => g114R (g114 m (α := α))) := row_of (g114Fn m)
abbrev S_g83 (α : Type) : Type := Int → Int → (ByteArray → Option α) → Option α
def g83b {α : Type} (G_g114 : {α : Type} → S_g114 α)  (p641 : Int) (p642 : Int) (k892 : ByteArray → Option α) : Option α :=
  G_g114 p641 p642
    (fun s891 =>
      k892 s891)
def g83 {α : Type} (m : Nat) : S_g83 α :=
  g83b (g114 m)
def g83tp : List TP := [(.vl (.sv (.int .i64))), (.vl (.sv (.int .i64)))]
def g83bp : List BP := []
def g83K {α : Type} (G : S_g83 α) (ls : List Lf) (k : KRe α) : Option α :=
  G (lf ls 0).int (lf ls 1).int
    (fun y0 => k (.vl (.sv (.str y0))) [] [])
def g83R {α : Type} (G : S_g83 α) := rowK g83tp g83bp (g83K G)
def g83hd (G_g114 : {α : Type} → S_g114 α)  : Hd where
  call := fun f args Bs k => cond (Nat.beq f 114) (g114R G_g114 args Bs k) (none)
  loop := fun id st k => none
  ro := fun f => []
def g83h (m : Nat) : Hd := g83hd (g114 m)
theorem g83Main (G_g114 : {α : Type} → S_g114 α)  {α : Type} (ls : List Lf) (k : KRe α) :
    g83K (g83b G_g114) ls k = evFun tab (g83hd G_g114) Go.Proofs.Tryd.f83 (fillT g83tp ls).1 (fillB g83bp (fillT g83tp ls).2).1 k := by kernel_rfl
theorem g83Calls (m : Nat) : (g83h m).CallsOk Go.Proofs.Tryd.prog := (cok_cons (g114Ok m) cok_nil)
theorem g83Fn (m : Nat) : FnOk Go.Proofs.Tryd.prog 83 g83tp g83bp (fun {α} => g83K (g83 m (α := α))) :=
  fn_ok (tab := tab) (h := g83h m) (fn := Go.Proofs.Tryd.f83) (F := fun {α} => g83K (g83 m (α := α))) tabOk (g83Calls m) mixed (by kernel_rfl) (by kernel_rfl) (fun c hc => by
    rw [bodyOf_some hc]
    exact loopsOk_of _ (fun p hp => by rw [show loopsOf (bodyOf Go.Proofs.Tryd.f83) = [] by kernel_rfl] at hp; cases hp))
    (fun α ls k => g83Main (g114 m) ls k)
theorem g83Ok (m : Nat) : RowOk Go.Proofs.Tryd.prog 83 (fun {α} => g83R (g83 m (α := α))) := row_of (g83Fn m)
abbrev S_g109 (α : Type) : Type := ByteArray → (Int → Bool → Option α) → Option α
def g109b {α : Type} (G_g124 : {α : Type} → S_g124 α) (G_g83 : {α : Type} → S_g83 α)  (z634 : ByteArray) (k896 : Int → Bool → Option α) : Option α :=
  G_g124 z634 (10 : Int) (64 : Int)
    (fun x640 =>
      G_g83 x640 (10 : Int)
        (fun s893 =>
        k896 x640 (bytesEq s893 z634)))
    (fun x895 =>
      k896 x895 false)
def g109 {α : Type} (m : Nat) : S_g109 α :=
  g109b (g124 m) (g83 m)
def g109tp : List TP := [(.vl (.sv .str))]
def g109bp : List BP := []
def g109K {α : Type} (G : S_g109 α) (ls : List Lf) (k : KRe α) : Option α :=
  G (lf ls 0).str
    (fun y0 y1 => k (.tup [(.sv (.int .i64 y0)), (.sv (.bool y1))]) [] [])
def g109R {α : Type} (G : S_g109 α) := rowK g109tp g109bp (g109K G)
def g109hd (G_g124 : {α : Type} → S_g124 α) (G_g83 : {α : Type} → S_g83 α)  : Hd where
  call := fun f args Bs k => cond (Nat.beq f 124) (g124R G_g124 args Bs k) (cond (Nat.beq f 83) (g83R G_g83 args Bs k) (none))
  loop := fun id st k => none
  ro := fun f => []
def g109h (m : Nat) : Hd := g109hd (g124 m) (g83 m)
theorem g109Main (G_g124 : {α : Type} → S_g124 α) (G_g83 : {α : Type} → S_g83 α)  {α : Type} (ls : List Lf) (k : KRe α) :
    g109K (g109b G_g124 G_g83) ls k = evFun tab (g109hd G_g124 G_g83) Go.Proofs.Tryd.f109 (fillT g109tp ls).1 (fillB g109bp (fillT g109tp ls).2).1 k := by kernel_rfl
theorem g109Calls (m : Nat) : (g109h m).CallsOk Go.Proofs.Tryd.prog := (cok_cons (g124Ok m) (cok_cons (g83Ok m) cok_nil))
theorem g109Fn (m : Nat) : FnOk Go.Proofs.Tryd.prog 109 g109tp g109bp (fun {α} => g109K (g109 m (α := α))) :=
  fn_ok (tab := tab) (h := g109h m) (fn := Go.Proofs.Tryd.f109) (F := fun {α} => g109K (g109 m (α := α))) tabOk (g109Calls m) mixed (by kernel_rfl) (by kernel_rfl) (fun c hc => by
    rw [bodyOf_some hc]
    exact loopsOk_of _ (fun p hp => by rw [show loopsOf (bodyOf Go.Proofs.Tryd.f109) = [] by kernel_rfl] at hp; cases hp))
    (fun α ls k => g109Main (g124 m) (g83 m) ls k)
theorem g109Ok (m : Nat) : RowOk Go.Proofs.Tryd.prog 109 (fun {α} => g109R (g109 m (α := α))) := row_of (g109Fn m)
end Go.Proofs.YtlmmgjngihlpeaaDoor.Sx
