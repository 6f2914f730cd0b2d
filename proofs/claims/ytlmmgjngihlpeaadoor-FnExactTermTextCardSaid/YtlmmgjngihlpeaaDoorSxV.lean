/- Functions. Printed by our own sx.py. -/
import Derived.Test.YtlmmgjngihlpeaaDoorBldTs
namespace Go.Proofs.YtlmmgjngihlpeaaDoor.Sx
open Go
set_option linter.unusedVariables false
set_option maxRecDepth 100000
abbrev S_g45 (α : Type) : Type := Int → Int → Int → Int → Int → Int → Int → Int → Int → Int → (Bool → Option α) → Option α
def g45b {α : Type}   (p683 : Int) (p684 : Int) (p685 : Int) (p686 : Int) (p687 : Int) (p688 : Int) (p689 : Int) (p690 : Int) (p691 : Int) (p692 : Int) (k698 : Bool → Option α) : Option α :=
  cond (p683 != p688)
   (
    k698 false)
   (
    cond (p684 != p689)
     (
      k698 false)
     (
      cond (p685 != p690)
       (
        k698 false)
       (
        cond (p686 != p691)
        (
        k698 false)
        (
        cond (p687 != p692)
        (
        k698 false)
        (
        k698 true)))))
def g45 {α : Type} (m : Nat) : S_g45 α :=
  g45b
def g45tp : List TP := [(.vl (.agg [(.one (.int .i8)), (.one (.int .i16)), (.one (.int .i16)), (.one (.int .i64)), (.one (.int .i64))])), (.vl (.agg [(.one (.int .i8)), (.one (.int .i16)), (.one (.int .i16)), (.one (.int .i64)), (.one (.int .i64))]))]
def g45bp : List BP := []
def g45K {α : Type} (G : S_g45 α) (ls : List Lf) (k : KRe α) : Option α :=
  G (lf ls 0).int (lf ls 1).int (lf ls 2).int (lf ls 3).int (lf ls 4).int (lf ls 5).int (lf ls 6).int (lf ls 7).int (lf ls 8).int (lf ls 9).int
    (fun y0 => k (.vl (.sv (.bool y0))) [] [])
def g45R {α : Type} (G : S_g45 α) := rowK g45tp g45bp (g45K G)
def g45hd   : Hd where
  call := fun f args Bs k => none
  loop := fun id st k => none
  ro := fun f => []
def g45h (m : Nat) : Hd := g45hd
theorem g45Main   {α : Type} (ls : List Lf) (k : KRe α) :
    g45K (g45b) ls k = evFun tab (g45hd) Go.Proofs.Tryd.f45 (fillT g45tp ls).1 (fillB g45bp (fillT g45tp ls).2).1 k := by kernel_rfl
theorem g45Calls (m : Nat) : (g45h m).CallsOk Go.Proofs.Tryd.prog := cok_nil
theorem g45Fn (m : Nat) : FnOk Go.Proofs.Tryd.prog 45 g45tp g45bp (fun {α} => g45K (g45 m (α := α))) :=
  fn_ok (tab := tab) (h := g45h m) (fn := Go.Proofs.Tryd.f45) (F := fun {α} => g45K (g45 m (α := α))) tabOk (g45Calls m) mixed (by kernel_rfl) (by kernel_rfl) (fun c hc => by
    rw [bodyOf_some hc]
    exact loopsOk_of _ (fun p hp => by rw [show loopsOf (bodyOf Go.Proofs.Tryd.f45) = [] by kernel_rfl] at hp; cases hp))
    (fun α ls k => g45Main ls k)
theorem g45Ok (m : Nat) : RowOk Go.Proofs.Tryd.prog 45 (fun {α} => g45R (g45 m (α := α))) := row_of (g45Fn m)
abbrev S_g11 (α : Type) : Type := Nat → Nat → Nat → Nat → Nat → Nat → Nat → Ty0 → Nat → Ty0 → (Bool → Option α) → Option α
abbrev S_g11l0 (α : Type) : Type := Nat → Nat → Nat → Nat → Nat → Nat → Nat → Ty0 → Nat → Ty0 → (Option α) → (Option α) → Int → Option α
def g11l0b {α : Type} (G_g45 : {α : Type} → S_g45 α)  (m661 : Nat) (m662 : Nat) (m663 : Nat) (m664 : Nat) (m665 : Nat) (m666 : Nat) (m668 : Nat) (a669 : Ty0) (m670 : Nat) (a671 : Ty0) (k702 : Option α) (k703 : Option α) (r704 : Int → Option α) (v667 : Int) : Option α :=
  cond (decide (v667 < ((m662 : Nat) : Int)))
   (
    if 0 ≤ v667 ∧ v667 < (m662 : Nat) then
      if (m661 + v667.toNat) < m668 then
        if 0 ≤ v667 ∧ v667 < (m665 : Nat) then
        if (m664 + v667.toNat) < m670 then
        G_g45 ((List.getD a669 (m661 + v667.toNat) []).headD 0) ((List.getD a669 (m661 + v667.toNat) []).tail.headD 0) ((List.getD a669 (m661 + v667.toNat) []).tail.tail.headD 0) ((List.getD a669 (m661 + v667.toNat) []).tail.tail.tail.headD 0) ((List.getD a669 (m661 + v667.toNat) []).tail.tail.tail.tail.headD 0) ((List.getD a671 (m664 + v667.toNat) []).headD 0) ((List.getD a671 (m664 + v667.toNat) []).tail.headD 0) ((List.getD a671 (m664 + v667.toNat) []).tail.tail.headD 0) ((List.getD a671 (m664 + v667.toNat) []).tail.tail.tail.headD 0) ((List.getD a671 (m664 + v667.toNat) []).tail.tail.tail.tail.headD 0)
        (fun b699 =>
        cond (!b699)
        (
        k702)
        (
        r704 (IntKind.wrap .i64 (v667 + (1 : Int)))))
        else
        none
        else
        none
      else
        none
    else
      none)
   (
    k703)
def g11l0 {α : Type} (G_g45 : {α : Type} → S_g45 α)  (m661 : Nat) (m662 : Nat) (m663 : Nat) (m664 : Nat) (m665 : Nat) (m666 : Nat) (m668 : Nat) (a669 : Ty0) (m670 : Nat) (a671 : Ty0) (k702 : Option α) (k703 : Option α) : Nat → Int → Option α
  | 0 => fun _ => none
  | m + 1 => fun v667 => g11l0b G_g45 m661 m662 m663 m664 m665 m666 m668 a669 m670 a671 k702 k703 (g11l0 G_g45 m661 m662 m663 m664 m665 m666 m668 a669 m670 a671 k702 k703 m) v667
def g11l0M {α : Type} (m : Nat) : S_g11l0 α :=
  fun m661 m662 m663 m664 m665 m666 m668 a669 m670 a671 k702 k703 v667 => g11l0 (g45 m) m661 m662 m663 m664 m665 m666 m668 a669 m670 a671 k702 k703 m v667
def g11l0D : LoopD := { n := 27, low := [0, 1], sl := [0, 1, 5], bl := [0, 1], tp := [(.vl (.sv (.slc 0 0 5))), (.vl (.sv (.slc 1 0 5))), (.vl (.sv (.int .i64)))], bp := [(false, [(.seqv (.rc [.i8, .i16, .i16, .i64, .i64]))]), (false, [(.seqv (.rc [.i8, .i16, .i16, .i64, .i64]))])], xs := [(1, [4]), (2, [])] }
def g11l0K {α : Type} (L : S_g11l0 α) (ls : List Lf) (k : KEx α) : Option α :=
  L (lf ls 0).nat (lf ls 1).nat (lf ls 2).nat (lf ls 3).nat (lf ls 4).nat (lf ls 5).nat (lf ls 7).nat ((lf ls 8).lst (.rc [.i8, .i16, .i16, .i64, .i64])) (lf ls 9).nat ((lf ls 10).lst (.rc [.i8, .i16, .i16, .i64, .i64]))
    (k .ret (mkSt 27 [4] [(.vl (.sv (.bool false)))] [0, 1] [(false, [(.seq (.rc [.i8, .i16, .i16, .i64, .i64]) (lf ls 7).nat ((lf ls 8).lst (.rc [.i8, .i16, .i16, .i64, .i64])))]), (false, [(.seq (.rc [.i8, .i16, .i16, .i64, .i64]) (lf ls 9).nat ((lf ls 10).lst (.rc [.i8, .i16, .i16, .i64, .i64])))])]))
    (k .normal (mkSt 27 [] [] [0, 1] [(false, [(.seq (.rc [.i8, .i16, .i16, .i64, .i64]) (lf ls 7).nat ((lf ls 8).lst (.rc [.i8, .i16, .i16, .i64, .i64])))]), (false, [(.seq (.rc [.i8, .i16, .i16, .i64, .i64]) (lf ls 9).nat ((lf ls 10).lst (.rc [.i8, .i16, .i16, .i64, .i64])))])]))
    (lf ls 6).int
def g11b {α : Type} (G_g45 : {α : Type} → S_g45 α) (L_g11l0 : {α : Type} → S_g11l0 α) (m650 : Nat) (m651 : Nat) (m652 : Nat) (m653 : Nat) (m654 : Nat) (m655 : Nat) (m656 : Nat) (u657 : Ty0) (m658 : Nat) (u659 : Ty0) (k705 : Bool → Option α) : Option α :=
  cond (((m651 : Nat) : Int) != ((m654 : Nat) : Int))
   (
    k705 false)
   (
    L_g11l0 m650 m651 m652 m653 m654 m655 m656 u657 m658 u659
      (
        k705 false)
      (
        k705 true)
      (0 : Int))
def g11 {α : Type} (m : Nat) : S_g11 α :=
  g11b (g45 m) (g11l0M m)
def g11tp : List TP := [(.vl (.sv (.slc 0 0 5))), (.vl (.sv (.slc 1 0 5)))]
def g11bp : List BP := [(false, [(.seqv (.rc [.i8, .i16, .i16, .i64, .i64]))]), (false, [(.seqv (.rc [.i8, .i16, .i16, .i64, .i64]))])]
def g11K {α : Type} (G : S_g11 α) (ls : List Lf) (k : KRe α) : Option α :=
  G (lf ls 0).nat (lf ls 1).nat (lf ls 2).nat (lf ls 3).nat (lf ls 4).nat (lf ls 5).nat (lf ls 6).nat ((lf ls 7).lst (.rc [.i8, .i16, .i16, .i64, .i64])) (lf ls 8).nat ((lf ls 9).lst (.rc [.i8, .i16, .i16, .i64, .i64]))
    (fun y0 => k (.vl (.sv (.bool y0))) [[(.seq (.rc [.i8, .i16, .i16, .i64, .i64]) (lf ls 6).nat ((lf ls 7).lst (.rc [.i8, .i16, .i16, .i64, .i64])))], [(.seq (.rc [.i8, .i16, .i16, .i64, .i64]) (lf ls 8).nat ((lf ls 9).lst (.rc [.i8, .i16, .i16, .i64, .i64])))]] [])
def g11R {α : Type} (G : S_g11 α) := rowK g11tp g11bp (g11K G)
def g11hd (G_g45 : {α : Type} → S_g45 α) (L_g11l0 : {α : Type} → S_g11l0 α) : Hd where
  call := fun f args Bs k => cond (Nat.beq f 45) (g45R G_g45 args Bs k) (none)
  loop := fun id st k => cond (Nat.beq id 0) (loopH g11l0D (g11l0K L_g11l0) st k) (none)
  ro := fun f => []
def g11h (m : Nat) : Hd := g11hd (g45 m) (g11l0M m)
theorem g11l0Step (G_g45 : {α : Type} → S_g45 α) (L_g11l0 : {α : Type} → S_g11l0 α) {α : Type} (L : S_g11l0 α) (ls : List Lf) (k : KEx α) :
    g11l0K (fun m661 m662 m663 m664 m665 m666 m668 a669 m670 a671 k702 k703 v667 => g11l0b G_g45 m661 m662 m663 m664 m665 m666 m668 a669 m670 a671 k702 k703 (L m661 m662 m663 m664 m665 m666 m668 a669 m670 a671 k702 k703) v667) ls k = ev tab (g11hd G_g45 L_g11l0) (bodyAt Go.Proofs.Tryd.f11 0) (atHead g11l0D ls) (loopK g11l0D 0 (loopH g11l0D (g11l0K L)) k) := by kernel_rfl
theorem g11Main (G_g45 : {α : Type} → S_g45 α) (L_g11l0 : {α : Type} → S_g11l0 α) {α : Type} (ls : List Lf) (k : KRe α) :
    g11K (g11b G_g45 L_g11l0) ls k = evFun tab (g11hd G_g45 L_g11l0) Go.Proofs.Tryd.f11 (fillT g11tp ls).1 (fillB g11bp (fillT g11tp ls).2).1 k := by kernel_rfl
theorem g11Calls (m : Nat) : (g11h m).CallsOk Go.Proofs.Tryd.prog := (cok_cons (g45Ok m) cok_nil)
theorem g11l0Ok (m : Nat) (α : Type) (st : St) (k : KEx α) (r : α) (h : (g11h m).loop 0 st k = some r) :
    LoopS Go.Proofs.Tryd.prog 0 (bodyAt Go.Proofs.Tryd.f11 0) st k r :=
  loop_ok (tab := tab) (h := g11h m) (F := fun n ls k => g11l0K (fun m661 m662 m663 m664 m665 m666 m668 a669 m670 a671 k702 k703 v667 => g11l0 (g45 m) m661 m662 m663 m664 m665 m666 m668 a669 m670 a671 k702 k703 n v667) ls k) tabOk (g11Calls m) mixed (loopsOk_of _ (fun p hp => by rw [show loopsOf (bodyAt Go.Proofs.Tryd.f11 0) = [] by kernel_rfl] at hp; cases hp))
    (fun _ _ => rfl) (fun n ls k => g11l0Step (g45 m) (g11l0M m) (fun m661 m662 m663 m664 m665 m666 m668 a669 m670 a671 k702 k703 => g11l0 (g45 m) m661 m662 m663 m664 m665 m666 m668 a669 m670 a671 k702 k703 n) ls k) (n := m) h
theorem g11Fn (m : Nat) : FnOk Go.Proofs.Tryd.prog 11 g11tp g11bp (fun {α} => g11K (g11 m (α := α))) :=
  fn_ok (tab := tab) (h := g11h m) (fn := Go.Proofs.Tryd.f11) (F := fun {α} => g11K (g11 m (α := α))) tabOk (g11Calls m) mixed (by kernel_rfl) (by kernel_rfl) (fun c hc => by
    rw [bodyOf_some hc]
    exact loopsOk_of _ (fun p hp => by
    rw [show loopsOf (bodyOf Go.Proofs.Tryd.f11) = [(0, bodyAt Go.Proofs.Tryd.f11 0)] by kernel_rfl] at hp
    simp only [List.mem_cons, List.not_mem_nil, or_false] at hp
    rcases hp with rfl
    exact g11l0Ok m))
    (fun α ls k => g11Main (g45 m) (g11l0M m) ls k)
theorem g11Ok (m : Nat) : RowOk Go.Proofs.Tryd.prog 11 (fun {α} => g11R (g11 m (α := α))) := row_of (g11Fn m)
abbrev S_g3 (α : Type) : Type := Nat → Nat → Nat → Nat → Ty0 → (Bool → Option α) → Option α
def g3b {α : Type} (G_g7 : {α : Type} → S_g7 α) (G_g9 : {α : Type} → S_g9 α) (G_g8 : {α : Type} → S_g8 α) (G_g10 : {α : Type} → S_g10 α) (G_g11 : {α : Type} → S_g11 α)  (m34 : Nat) (m35 : Nat) (m36 : Nat) (m37 : Nat) (u38 : Ty0) (k708 : Bool → Option α) : Option α :=
  G_g7 m34 m35 m36 (1048576 : Int) m37 u38
    (fun x48 =>
      cond (decide (x48 < (0 : Int)))
       (
        k708 true)
       (
        G_g9 m34 m35 m36 m37 u38
        (fun l85 =>
        G_g8 0 m35 m35 m35 l85
        (fun s284 =>
        G_g9 m34 m35 m36 m37 u38
        (fun l285 =>
        G_g10 0 m35 m35 m35 l285
        (fun s647 =>
        cond (!bytesEq s647 s284)
        (
        k708 false)
        (
        G_g9 m34 m35 m36 m37 u38
        (fun l649 =>
        G_g11 0 m35 m35 0 m35 m35 m35 l285 m35 l649
        (fun b706 =>
        cond (!b706)
        (
        k708 false)
        (
        k708 true))))))))))
noncomputable def g3 {α : Type} (m : Nat) : S_g3 α :=
  g3b (g7 m) (g9 m) (g8 m) (g10 m) (g11 m)
def g3tp : List TP := [(.vl (.sv (.sla 0 0 5)))]
def g3bp : List BP := [(false, [(.seqv (.rc [.i8, .i16, .i16, .i64, .i64]))])]
def g3K {α : Type} (G : S_g3 α) (ls : List Lf) (k : KRe α) : Option α :=
  G (lf ls 0).nat (lf ls 1).nat (lf ls 2).nat (lf ls 3).nat ((lf ls 4).lst (.rc [.i8, .i16, .i16, .i64, .i64]))
    (fun y0 => k (.vl (.sv (.bool y0))) [[(.seq (.rc [.i8, .i16, .i16, .i64, .i64]) (lf ls 3).nat ((lf ls 4).lst (.rc [.i8, .i16, .i16, .i64, .i64])))]] [])
def g3hd (G_g7 : {α : Type} → S_g7 α) (G_g9 : {α : Type} → S_g9 α) (G_g8 : {α : Type} → S_g8 α) (G_g10 : {α : Type} → S_g10 α) (G_g11 : {α : Type} → S_g11 α)  : Hd where
  call := fun f args Bs k => cond (Nat.beq f 7) (g7R G_g7 args Bs k) (cond (Nat.beq f 9) (g9R G_g9 args Bs k) (cond (Nat.beq f 8) (g8R G_g8 args Bs k) (cond (Nat.beq f 10) (g10R G_g10 args Bs k) (cond (Nat.beq f 11) (g11R G_g11 args Bs k) (none)))))
  loop := fun id st k => none
  ro := fun f => cond (Nat.beq f 7) [0] (cond (Nat.beq f 8) [0] (cond (Nat.beq f 9) [0] (cond (Nat.beq f 10) [0] (cond (Nat.beq f 11) [0, 1] ([])))))
noncomputable def g3h (m : Nat) : Hd := g3hd (g7 m) (g9 m) (g8 m) (g10 m) (g11 m)
theorem g3Main (G_g7 : {α : Type} → S_g7 α) (G_g9 : {α : Type} → S_g9 α) (G_g8 : {α : Type} → S_g8 α) (G_g10 : {α : Type} → S_g10 α) (G_g11 : {α : Type} → S_g11 α)  {α : Type} (ls : List Lf) (k : KRe α) :
    g3K (g3b G_g7 G_g9 G_g8 G_g10 G_g11) ls k = evFun tab (g3hd G_g7 G_g9 G_g8 G_g10 G_g11) Go.Proofs.Tryd.f3 (fillT g3tp ls).1 (fillB g3bp (fillT g3tp ls).2).1 k := by kernel_rfl
theorem g3Calls (m : Nat) : (g3h m).CallsOk Go.Proofs.Tryd.prog := (cok_cons (g7Ok m) (cok_cons (g9Ok m) (cok_cons (g8Ok m) (cok_cons (g10Ok m) (cok_cons (g11Ok m) cok_nil)))))
theorem g3Fn (m : Nat) : FnOk Go.Proofs.Tryd.prog 3 g3tp g3bp (fun {α} => g3K (g3 m (α := α))) :=
  fn_ok (tab := tab) (h := g3h m) (fn := Go.Proofs.Tryd.f3) (F := fun {α} => g3K (g3 m (α := α))) tabOk (g3Calls m) mixed (by kernel_rfl) (by kernel_rfl) (fun c hc => by
    rw [bodyOf_some hc]
    exact loopsOk_of _ (fun p hp => by rw [show loopsOf (bodyOf Go.Proofs.Tryd.f3) = [] by kernel_rfl] at hp; cases hp))
    (fun α ls k => g3Main (g7 m) (g9 m) (g8 m) (g10 m) (g11 m) ls k)
end Go.Proofs.YtlmmgjngihlpeaaDoor.Sx
