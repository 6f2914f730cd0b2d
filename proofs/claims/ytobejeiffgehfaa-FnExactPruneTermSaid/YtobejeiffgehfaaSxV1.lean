/- Functions. Printed by our own sx.py. -/
import Derived.Test.YtobejeiffgehfaaSxV0
namespace Go.Proofs.Ytobejeiffgehfaa.Sx
open Go
set_option linter.unusedVariables false
set_option maxRecDepth 100000
/-! ### g35: spec.ShareTerm -/
def g35l2b {α : Type}   (m719 : Nat) (m720 : Nat) (m721 : Nat) (m722 : Nat) (m723 : Nat) (m724 : Nat) (v725 : Int) (m727 : Nat) (a728 : List (List Int)) (a729 : List (List Int)) (m730 : Nat) (a731 : List Int) (v732 : Int) (v733 : Int) (v734 : Int) (v735 : Int) (v736 : Int) (k745 : Int → Option α) (r746 : Int → Option α) (v726 : Int) : Option α :=
  cond (decide (v726 < ((a729.length : Nat) : Int)))
   (
    if 0 ≤ v726 ∧ v726 < (a729.length : Nat) then
      if v726.toNat < a729.length then
        cond (!((((List.getD a729 v726.toNat []).headD 0) == v732) && ((((List.getD a729 v726.toNat []).tail.headD 0) == v733) && ((((List.getD a729 v726.toNat []).tail.tail.headD 0) == v734) && ((((List.getD a729 v726.toNat []).tail.tail.tail.headD 0) == v735) && (((List.getD a729 v726.toNat []).tail.tail.tail.tail.headD 0) == v736))))))
         (
          r746 (IntKind.wrap .i64 (v726 + (1 : Int))))
         (
          k745 v726)
      else
        none
    else
      none)
   (
    k745 v726)
def g35l2 {α : Type}   (m719 : Nat) (m720 : Nat) (m721 : Nat) (m722 : Nat) (m723 : Nat) (m724 : Nat) (v725 : Int) (m727 : Nat) (a728 : List (List Int)) (a729 : List (List Int)) (m730 : Nat) (a731 : List Int) (v732 : Int) (v733 : Int) (v734 : Int) (v735 : Int) (v736 : Int) (k745 : Int → Option α) : Nat → Int → Option α
  | 0 => fun _ => none
  | m + 1 => fun v726 => g35l2b m719 m720 m721 m722 m723 m724 v725 m727 a728 a729 m730 a731 v732 v733 v734 v735 v736 k745 (g35l2 m719 m720 m721 m722 m723 m724 v725 m727 a728 a729 m730 a731 v732 v733 v734 v735 v736 k745 m) v726
def g35l2M {α : Type} (m : Nat) : Nat → Nat → Nat → Nat → Nat → Nat → Int → Nat → (List (List Int)) → (List (List Int)) → Nat → (List Int) → Int → Int → Int → Int → Int → (Int → Option α) → Int → Option α :=
  fun m719 m720 m721 m722 m723 m724 v725 m727 a728 a729 m730 a731 v732 v733 v734 v735 v736 k745 v726 => g35l2 m719 m720 m721 m722 m723 m724 v725 m727 a728 a729 m730 a731 v732 v733 v734 v735 v736 k745 m v726
def g35l2D : LoopD := { n := 59, low := [0], sl := [0, 5, 6, 7, 8, 9], bl := [0, 1000001, 1000002, 1000003], tp := [(.vl (.sv (.slc 0 0 5))), (.vl (.sv (.gsl 1000001 5))), (.vl (.sv (.slc 1000002 0 1))), (.vl (.sv (.int .i64))), (.vl (.sv (.ptr 1000003 0))), (.vl (.sv (.int .i64)))], bp := [(false, [(.seqv (.rc [.i8, .i16, .i16, .i64, .i64]))]), (true, [(.gro (.rc [.i8, .i16, .i16, .i64, .i64]))]), (true, [(.seqv (.int .i64))]), (true, [(.one (.int .i8)), (.one (.int .i16)), (.one (.int .i16)), (.one (.int .i64)), (.one (.int .i64))])], xs := [(4, [0, 5, 6, 7, 8, 9])] }
def g35l2K {α : Type} (L : Nat → Nat → Nat → Nat → Nat → Nat → Int → Nat → (List (List Int)) → (List (List Int)) → Nat → (List Int) → Int → Int → Int → Int → Int → (Int → Option α) → Int → Option α) (ls : List Lf) (k : Ex → St → Option α) : Option α :=
  L (lf ls 0).nat (lf ls 1).nat (lf ls 2).nat (lf ls 3).nat (lf ls 4).nat (lf ls 5).nat (lf ls 6).int (lf ls 8).nat ((lf ls 9).lst (.rc [.i8, .i16, .i16, .i64, .i64])) ((lf ls 10).lst (.rc [.i8, .i16, .i16, .i64, .i64])) (lf ls 11).nat ((lf ls 12).lst (.int .i64)) (lf ls 13).int (lf ls 14).int (lf ls 15).int (lf ls 16).int (lf ls 17).int
    (fun y7 => k .normal (mkSt 59 [0, 5, 6, 7, 8, 9] [(.vl (.sv (.slc 0 0 5 (lf ls 0).nat (lf ls 1).nat (lf ls 2).nat))), (.vl (.sv (.gsl 1000001 5))), (.vl (.sv (.slc 1000002 0 1 (lf ls 3).nat (lf ls 4).nat (lf ls 5).nat))), (.vl (.sv (.int .i64 (lf ls 6).int))), (.vl (.sv (.ptr 1000003 0))), (.vl (.sv (.int .i64 y7)))] [0, 1000001, 1000002, 1000003] [(false, [(.seq (.rc [.i8, .i16, .i16, .i64, .i64]) (lf ls 8).nat ((lf ls 9).lst (.rc [.i8, .i16, .i16, .i64, .i64])))]), (true, [(.gro (.rc [.i8, .i16, .i16, .i64, .i64]) ((lf ls 10).lst (.rc [.i8, .i16, .i16, .i64, .i64])))]), (true, [(.seq (.int .i64) (lf ls 11).nat ((lf ls 12).lst (.int .i64)))]), (true, [(.one (.int .i8 (lf ls 13).int)), (.one (.int .i16 (lf ls 14).int)), (.one (.int .i16 (lf ls 15).int)), (.one (.int .i64 (lf ls 16).int)), (.one (.int .i64 (lf ls 17).int))])]))
    (lf ls 7).int
def g35l0b {α : Type} (G_g75v1 : {α : Type} → Int → Int → Int → Int → Int → Nat → Nat → Nat → Nat → (List Int) → (Int → Int → Option α) → Option α) (L_g35l2 : {α : Type} → Nat → Nat → Nat → Nat → Nat → Nat → Int → Nat → (List (List Int)) → (List (List Int)) → Nat → (List Int) → Int → Int → Int → Int → Int → (Int → Option α) → Int → Option α) (m673 : Nat) (m674 : Nat) (m675 : Nat) (m676 : Nat) (m677 : Nat) (m678 : Nat) (m680 : Nat) (a681 : List (List Int)) (m683 : Nat) (k754 : (List (List Int)) → (List Int) → Option α) (r755 : Int → (List (List Int)) → (List Int) → Option α) (v679 : Int) (a682 : List (List Int)) (a684 : List Int) : Option α :=
  cond (decide (v679 < ((m674 : Nat) : Int)))
   (
    if 0 ≤ v679 ∧ v679 < (m674 : Nat) then
      if (m673 + v679.toNat) < m680 then
        let x686 : Int := (List.getD a681 (m673 + v679.toNat) []).headD 0
        let x689 : Int := (List.getD a681 (m673 + v679.toNat) []).tail.tail.tail.headD 0
        let x690 : Int := (List.getD a681 (m673 + v679.toNat) []).tail.tail.tail.tail.headD 0
        G_g75v1 x686 ((List.getD a681 (m673 + v679.toNat) []).tail.headD 0) ((List.getD a681 (m673 + v679.toNat) []).tail.tail.headD 0) x689 x690 m676 m677 m678 m683 a684
          (fun x717 x718 =>
            L_g35l2 m673 m674 m675 m676 m677 m678 v679 m680 a681 a682 m683 a684 x686 x717 x718 x689 x690
              (fun x747 =>
                cond (x747 == ((a682.length : Nat) : Int))
                 (
                  if a682.length + 1 ≤ 67108864 then
                    if 0 ≤ v679 ∧ v679 < (m677 : Nat) then
                      if (m676 + v679.toNat) < m683 then
                        r755 (IntKind.wrap .i64 (v679 + (1 : Int))) (a682 ++ [[x686, x717, x718, x689, x690]]) (List.set a684 (m676 + v679.toNat) x747)
                      else
                        none
                    else
                      none
                  else
                    none)
                 (
                  if 0 ≤ v679 ∧ v679 < (m677 : Nat) then
                    if (m676 + v679.toNat) < m683 then
                      r755 (IntKind.wrap .i64 (v679 + (1 : Int))) a682 (List.set a684 (m676 + v679.toNat) x747)
                    else
                      none
                  else
                    none))
              (0 : Int))
      else
        none
    else
      none)
   (
    k754 a682 a684)
def g35l0 {α : Type} (G_g75v1 : {α : Type} → Int → Int → Int → Int → Int → Nat → Nat → Nat → Nat → (List Int) → (Int → Int → Option α) → Option α) (L_g35l2 : {α : Type} → Nat → Nat → Nat → Nat → Nat → Nat → Int → Nat → (List (List Int)) → (List (List Int)) → Nat → (List Int) → Int → Int → Int → Int → Int → (Int → Option α) → Int → Option α) (m673 : Nat) (m674 : Nat) (m675 : Nat) (m676 : Nat) (m677 : Nat) (m678 : Nat) (m680 : Nat) (a681 : List (List Int)) (m683 : Nat) (k754 : (List (List Int)) → (List Int) → Option α) : Nat → Int → (List (List Int)) → (List Int) → Option α
  | 0 => fun _ _ _ => none
  | m + 1 => fun v679 a682 a684 => g35l0b G_g75v1 L_g35l2 m673 m674 m675 m676 m677 m678 m680 a681 m683 k754 (g35l0 G_g75v1 L_g35l2 m673 m674 m675 m676 m677 m678 m680 a681 m683 k754 m) v679 a682 a684
def g35l0M {α : Type} (m : Nat) : Nat → Nat → Nat → Nat → Nat → Nat → Nat → (List (List Int)) → Nat → ((List (List Int)) → (List Int) → Option α) → Int → (List (List Int)) → (List Int) → Option α :=
  fun m673 m674 m675 m676 m677 m678 m680 a681 m683 k754 v679 a682 a684 => g35l0 (g75v1 m) (g35l2M m) m673 m674 m675 m676 m677 m678 m680 a681 m683 k754 m v679 a682 a684
def g35l0D : LoopD := { n := 59, low := [0], sl := [0, 5, 6, 7], bl := [0, 1000001, 1000002], tp := [(.vl (.sv (.slc 0 0 5))), (.vl (.sv (.gsl 1000001 5))), (.vl (.sv (.slc 1000002 0 1))), (.vl (.sv (.int .i64)))], bp := [(false, [(.seqv (.rc [.i8, .i16, .i16, .i64, .i64]))]), (true, [(.gro (.rc [.i8, .i16, .i16, .i64, .i64]))]), (true, [(.seqv (.int .i64))])], xs := [(2, [5, 6])] }
def g35l0K {α : Type} (L : Nat → Nat → Nat → Nat → Nat → Nat → Nat → (List (List Int)) → Nat → ((List (List Int)) → (List Int) → Option α) → Int → (List (List Int)) → (List Int) → Option α) (ls : List Lf) (k : Ex → St → Option α) : Option α :=
  L (lf ls 0).nat (lf ls 1).nat (lf ls 2).nat (lf ls 3).nat (lf ls 4).nat (lf ls 5).nat (lf ls 7).nat ((lf ls 8).lst (.rc [.i8, .i16, .i16, .i64, .i64])) (lf ls 10).nat
    (fun y5 y7 => k .normal (mkSt 59 [5, 6] [(.vl (.sv (.gsl 1000001 5))), (.vl (.sv (.slc 1000002 0 1 (lf ls 3).nat (lf ls 4).nat (lf ls 5).nat)))] [0, 1000001, 1000002] [(false, [(.seq (.rc [.i8, .i16, .i16, .i64, .i64]) (lf ls 7).nat ((lf ls 8).lst (.rc [.i8, .i16, .i16, .i64, .i64])))]), (true, [(.gro (.rc [.i8, .i16, .i16, .i64, .i64]) y5)]), (true, [(.seq (.int .i64) (lf ls 10).nat y7)])]))
    (lf ls 6).int ((lf ls 9).lst (.rc [.i8, .i16, .i16, .i64, .i64])) ((lf ls 11).lst (.int .i64))
def g35b {α : Type} (G_g42 : {α : Type} → Nat → Nat → Nat → Nat → (List (List Int)) → (Bool → Option α) → Option α) (G_g75v1 : {α : Type} → Int → Int → Int → Int → Int → Nat → Nat → Nat → Nat → (List Int) → (Int → Int → Option α) → Option α) (L_g35l2 : {α : Type} → Nat → Nat → Nat → Nat → Nat → Nat → Int → Nat → (List (List Int)) → (List (List Int)) → Nat → (List Int) → Int → Int → Int → Int → Int → (Int → Option α) → Int → Option α) (L_g35l0 : {α : Type} → Nat → Nat → Nat → Nat → Nat → Nat → Nat → (List (List Int)) → Nat → ((List (List Int)) → (List Int) → Option α) → Int → (List (List Int)) → (List Int) → Option α) (m665 : Nat) (m666 : Nat) (m667 : Nat) (m668 : Nat) (u669 : List (List Int)) (k758 : (List (List Int)) → (List Int) → Option α) (k759 : (List (List Int)) → (List Int) → Option α) : Option α :=
  G_g42 m665 m666 m667 m668 u669
    (fun b670 =>
      cond (!b670)
       (
        k758 [] [])
       (
        if ((m666 : Nat) : Int) = ((m666 : Nat) : Int) ∧ 0 ≤ ((m666 : Nat) : Int) ∧ ((m666 : Nat) : Int) ≤ 1048576 then
          L_g35l0 m665 m666 m667 0 m666 m666 m668 u669 m666
            (fun l756 l757 =>
              k759 l756 l757)
            (0 : Int) [] (List.replicate m666 (0 : Int))
        else
          none))
def g35 {α : Type} (m : Nat) : Nat → Nat → Nat → Nat → (List (List Int)) → ((List (List Int)) → (List Int) → Option α) → ((List (List Int)) → (List Int) → Option α) → Option α :=
  g35b (g42 m) (g75v1 m) (g35l2M m) (g35l0M m)
def g35tp : List TP := [(.vl (.sv (.slc 0 0 5)))]
def g35bp : List BP := [(false, [(.seqv (.rc [.i8, .i16, .i16, .i64, .i64]))])]
def g35K {α : Type} (G : Nat → Nat → Nat → Nat → (List (List Int)) → ((List (List Int)) → (List Int) → Option α) → ((List (List Int)) → (List Int) → Option α) → Option α) (ls : List Lf) (k : TV → List (List Seg) → List (List Seg) → Option α) : Option α :=
  G (lf ls 0).nat (lf ls 1).nat (lf ls 2).nat (lf ls 3).nat ((lf ls 4).lst (.rc [.i8, .i16, .i16, .i64, .i64]))
    (fun y3 y4 => k (.tup [(.sv (.gsl 1 5)), (.sv (.gsl 2 1)), (.sv (.int .i64 (1 : Int)))]) [[(.seq (.rc [.i8, .i16, .i16, .i64, .i64]) (lf ls 3).nat ((lf ls 4).lst (.rc [.i8, .i16, .i16, .i64, .i64])))]] [[(.gro (.rc [.i8, .i16, .i16, .i64, .i64]) y3)], [(.gro (.int .i64) y4)]])
    (fun y6 y8 => k (.tup [(.sv (.gsl 1 5)), (.sv (.slc 2 0 1 0 (lf ls 1).nat (lf ls 1).nat)), (.sv (.int .i64 (0 : Int)))]) [[(.seq (.rc [.i8, .i16, .i16, .i64, .i64]) (lf ls 3).nat ((lf ls 4).lst (.rc [.i8, .i16, .i16, .i64, .i64])))]] [[(.gro (.rc [.i8, .i16, .i16, .i64, .i64]) y6)], [(.seq (.int .i64) (lf ls 1).nat y8)]])
def g35hd (G_g42 : {α : Type} → Nat → Nat → Nat → Nat → (List (List Int)) → (Bool → Option α) → Option α) (G_g75v1 : {α : Type} → Int → Int → Int → Int → Int → Nat → Nat → Nat → Nat → (List Int) → (Int → Int → Option α) → Option α) (L_g35l2 : {α : Type} → Nat → Nat → Nat → Nat → Nat → Nat → Int → Nat → (List (List Int)) → (List (List Int)) → Nat → (List Int) → Int → Int → Int → Int → Int → (Int → Option α) → Int → Option α) (L_g35l0 : {α : Type} → Nat → Nat → Nat → Nat → Nat → Nat → Nat → (List (List Int)) → Nat → ((List (List Int)) → (List Int) → Option α) → Int → (List (List Int)) → (List Int) → Option α) : Hd where
  call := fun f args Bs k => cond (Nat.beq f 42) (rowK g42tp g42bp (g42K G_g42) args Bs k) (cond (Nat.beq f 75) (rowK g75v1tp g75v1bp (g75v1K G_g75v1) args Bs k) (none))
  loop := fun id st k => cond (Nat.beq id 2) (loopH g35l2D (g35l2K L_g35l2) st k) (cond (Nat.beq id 0) (loopH g35l0D (g35l0K L_g35l0) st k) (none))
  ro := fun f => cond (Nat.beq f 42) [0] (cond (Nat.beq f 75) [0] ([]))
def g35h (m : Nat) : Hd := g35hd (g42 m) (g75v1 m) (g35l2M m) (g35l0M m)
theorem g35l2Step (G_g42 : {α : Type} → Nat → Nat → Nat → Nat → (List (List Int)) → (Bool → Option α) → Option α) (G_g75v1 : {α : Type} → Int → Int → Int → Int → Int → Nat → Nat → Nat → Nat → (List Int) → (Int → Int → Option α) → Option α) (L_g35l2 : {α : Type} → Nat → Nat → Nat → Nat → Nat → Nat → Int → Nat → (List (List Int)) → (List (List Int)) → Nat → (List Int) → Int → Int → Int → Int → Int → (Int → Option α) → Int → Option α) (L_g35l0 : {α : Type} → Nat → Nat → Nat → Nat → Nat → Nat → Nat → (List (List Int)) → Nat → ((List (List Int)) → (List Int) → Option α) → Int → (List (List Int)) → (List Int) → Option α) {α : Type} (L : Nat → Nat → Nat → Nat → Nat → Nat → Int → Nat → (List (List Int)) → (List (List Int)) → Nat → (List Int) → Int → Int → Int → Int → Int → (Int → Option α) → Int → Option α) (ls : List Lf) (k : Ex → St → Option α) :
    g35l2K (fun m719 m720 m721 m722 m723 m724 v725 m727 a728 a729 m730 a731 v732 v733 v734 v735 v736 k745 v726 => g35l2b m719 m720 m721 m722 m723 m724 v725 m727 a728 a729 m730 a731 v732 v733 v734 v735 v736 k745 (L m719 m720 m721 m722 m723 m724 v725 m727 a728 a729 m730 a731 v732 v733 v734 v735 v736 k745) v726) ls k = ev tab (g35hd G_g42 G_g75v1 L_g35l2 L_g35l0) (bodyAt Go.Proofs.Try.f35 2) (atHead g35l2D ls) (loopK g35l2D 2 (loopH g35l2D (g35l2K L)) k) := by kernel_rfl
theorem g35l0Step (G_g42 : {α : Type} → Nat → Nat → Nat → Nat → (List (List Int)) → (Bool → Option α) → Option α) (G_g75v1 : {α : Type} → Int → Int → Int → Int → Int → Nat → Nat → Nat → Nat → (List Int) → (Int → Int → Option α) → Option α) (L_g35l2 : {α : Type} → Nat → Nat → Nat → Nat → Nat → Nat → Int → Nat → (List (List Int)) → (List (List Int)) → Nat → (List Int) → Int → Int → Int → Int → Int → (Int → Option α) → Int → Option α) (L_g35l0 : {α : Type} → Nat → Nat → Nat → Nat → Nat → Nat → Nat → (List (List Int)) → Nat → ((List (List Int)) → (List Int) → Option α) → Int → (List (List Int)) → (List Int) → Option α) {α : Type} (L : Nat → Nat → Nat → Nat → Nat → Nat → Nat → (List (List Int)) → Nat → ((List (List Int)) → (List Int) → Option α) → Int → (List (List Int)) → (List Int) → Option α) (ls : List Lf) (k : Ex → St → Option α) :
    g35l0K (fun m673 m674 m675 m676 m677 m678 m680 a681 m683 k754 v679 a682 a684 => g35l0b G_g75v1 L_g35l2 m673 m674 m675 m676 m677 m678 m680 a681 m683 k754 (L m673 m674 m675 m676 m677 m678 m680 a681 m683 k754) v679 a682 a684) ls k = ev tab (g35hd G_g42 G_g75v1 L_g35l2 L_g35l0) (bodyAt Go.Proofs.Try.f35 0) (atHead g35l0D ls) (loopK g35l0D 0 (loopH g35l0D (g35l0K L)) k) := by kernel_rfl
theorem g35Main (G_g42 : {α : Type} → Nat → Nat → Nat → Nat → (List (List Int)) → (Bool → Option α) → Option α) (G_g75v1 : {α : Type} → Int → Int → Int → Int → Int → Nat → Nat → Nat → Nat → (List Int) → (Int → Int → Option α) → Option α) (L_g35l2 : {α : Type} → Nat → Nat → Nat → Nat → Nat → Nat → Int → Nat → (List (List Int)) → (List (List Int)) → Nat → (List Int) → Int → Int → Int → Int → Int → (Int → Option α) → Int → Option α) (L_g35l0 : {α : Type} → Nat → Nat → Nat → Nat → Nat → Nat → Nat → (List (List Int)) → Nat → ((List (List Int)) → (List Int) → Option α) → Int → (List (List Int)) → (List Int) → Option α) {α : Type} (ls : List Lf) (k : TV → List (List Seg) → List (List Seg) → Option α) :
    g35K (g35b G_g42 G_g75v1 L_g35l2 L_g35l0) ls k = evFun tab (g35hd G_g42 G_g75v1 L_g35l2 L_g35l0) Go.Proofs.Try.f35 (fillT g35tp ls).1 (fillB g35bp (fillT g35tp ls).2).1 k := by kernel_rfl
theorem g35Calls (m : Nat) : (g35h m).CallsOk Go.Proofs.Try.prog := (cok_cons (g42Ok m) (cok_cons (g75v1Ok m) cok_nil))
theorem g35l2Ok (m : Nat) (α : Type) (st : St) (k : Ex → St → Option α) (r : α) (h : (g35h m).loop 2 st k = some r) :
    ∃ e st', k e st' = some r ∧ CodeS Go.Proofs.Try.prog (.block 2 (.loop (bodyAt Go.Proofs.Try.f35 2))) st e st' :=
  loop_ok (tab := tab) (h := g35h m) (F := fun n ls k => g35l2K (fun m719 m720 m721 m722 m723 m724 v725 m727 a728 a729 m730 a731 v732 v733 v734 v735 v736 k745 v726 => g35l2 m719 m720 m721 m722 m723 m724 v725 m727 a728 a729 m730 a731 v732 v733 v734 v735 v736 k745 n v726) ls k) tabOk (g35Calls m) mixed (loopsOk_of _ (fun p hp => by rw [show loopsOf (bodyAt Go.Proofs.Try.f35 2) = [] by kernel_rfl] at hp; cases hp))
    (fun _ _ => rfl) (fun n ls k => g35l2Step (g42 m) (g75v1 m) (g35l2M m) (g35l0M m) (fun m719 m720 m721 m722 m723 m724 v725 m727 a728 a729 m730 a731 v732 v733 v734 v735 v736 k745 => g35l2 m719 m720 m721 m722 m723 m724 v725 m727 a728 a729 m730 a731 v732 v733 v734 v735 v736 k745 n) ls k) (n := m) h
theorem g35l0Ok (m : Nat) (α : Type) (st : St) (k : Ex → St → Option α) (r : α) (h : (g35h m).loop 0 st k = some r) :
    ∃ e st', k e st' = some r ∧ CodeS Go.Proofs.Try.prog (.block 0 (.loop (bodyAt Go.Proofs.Try.f35 0))) st e st' :=
  loop_ok (tab := tab) (h := g35h m) (F := fun n ls k => g35l0K (fun m673 m674 m675 m676 m677 m678 m680 a681 m683 k754 v679 a682 a684 => g35l0 (g75v1 m) (g35l2M m) m673 m674 m675 m676 m677 m678 m680 a681 m683 k754 n v679 a682 a684) ls k) tabOk (g35Calls m) mixed (loopsOk_of _ (fun p hp => by
    rw [show loopsOf (bodyAt Go.Proofs.Try.f35 0) = [(2, bodyAt Go.Proofs.Try.f35 2)] by kernel_rfl] at hp
    simp only [List.mem_cons, List.not_mem_nil, or_false] at hp
    rcases hp with rfl
    exact g35l2Ok m))
    (fun _ _ => rfl) (fun n ls k => g35l0Step (g42 m) (g75v1 m) (g35l2M m) (g35l0M m) (fun m673 m674 m675 m676 m677 m678 m680 a681 m683 k754 => g35l0 (g75v1 m) (g35l2M m) m673 m674 m675 m676 m677 m678 m680 a681 m683 k754 n) ls k) (n := m) h
theorem g35Fn (m : Nat) : FnOk Go.Proofs.Try.prog 35 g35tp g35bp (fun {α} => g35K (g35 (α := α) m)) :=
  fn_ok (tab := tab) (h := g35h m) (fn := Go.Proofs.Try.f35) (F := fun {α} => g35K (g35 (α := α) m)) tabOk (g35Calls m) mixed (by kernel_rfl) (by kernel_rfl) (fun c hc => by
    rw [bodyOf_some hc]
    exact loopsOk_of _ (fun p hp => by
    rw [show loopsOf (bodyOf Go.Proofs.Try.f35) = [(0, bodyAt Go.Proofs.Try.f35 0)] by kernel_rfl] at hp
    simp only [List.mem_cons, List.not_mem_nil, or_false] at hp
    rcases hp with rfl
    exact g35l0Ok m))
    (fun α ls k => g35Main (g42 m) (g75v1 m) (g35l2M m) (g35l0M m) ls k)
theorem g35Ok (m : Nat) : RowOk Go.Proofs.Try.prog 35 (fun {α} => rowK g35tp g35bp (g35K (g35 (α := α) m))) := row_of (g35Fn m)

/-! ### g99: impl.share$1 -/
def g99b {α : Type}   (p808 : Int) (m809 : Nat) (m810 : Nat) (m811 : Nat) (m812 : Nat) (u813 : List Int) (k816 : Int → Option α) : Option α :=
  if 0 ≤ p808 ∧ p808 < (m810 : Nat) then
    if (m809 + p808.toNat) < m812 then
      k816 (IntKind.wrap .i16 (List.getD u813 (m809 + p808.toNat) 0))
    else
      none
  else
    none
def g99 {α : Type} (m : Nat) : Int → Nat → Nat → Nat → Nat → (List Int) → (Int → Option α) → Option α :=
  g99b
def g99tp : List TP := [(.vl (.sv (.int .i16))), (.vl (.sv (.ptr 0 0)))]
def g99bp : List BP := [(false, [(.one (.slc 1 0 1))]), (false, [(.seqv (.int .i64))])]
def g99K {α : Type} (G : Int → Nat → Nat → Nat → Nat → (List Int) → (Int → Option α) → Option α) (ls : List Lf) (k : TV → List (List Seg) → List (List Seg) → Option α) : Option α :=
  G (lf ls 0).int (lf ls 1).nat (lf ls 2).nat (lf ls 3).nat (lf ls 4).nat ((lf ls 5).lst (.int .i64))
    (fun y0 => k (.vl (.sv (.int .i16 y0))) [[(.one (.slc 1 0 1 (lf ls 1).nat (lf ls 2).nat (lf ls 3).nat))], [(.seq (.int .i64) (lf ls 4).nat ((lf ls 5).lst (.int .i64)))]] [])
def g99hd   : Hd where
  call := fun f args Bs k => none
  loop := fun id st k => none
  ro := fun f => []
def g99h (m : Nat) : Hd := g99hd
theorem g99Main   {α : Type} (ls : List Lf) (k : TV → List (List Seg) → List (List Seg) → Option α) :
    g99K (g99b) ls k = evFun tab (g99hd) Go.Proofs.Try.f99 (fillT g99tp ls).1 (fillB g99bp (fillT g99tp ls).2).1 k := by kernel_rfl
theorem g99Calls (m : Nat) : (g99h m).CallsOk Go.Proofs.Try.prog := cok_nil
theorem g99Fn (m : Nat) : FnOk Go.Proofs.Try.prog 99 g99tp g99bp (fun {α} => g99K (g99 (α := α) m)) :=
  fn_ok (tab := tab) (h := g99h m) (fn := Go.Proofs.Try.f99) (F := fun {α} => g99K (g99 (α := α) m)) tabOk (g99Calls m) mixed (by kernel_rfl) (by kernel_rfl) (fun c hc => by
    rw [bodyOf_some hc]
    exact loopsOk_of _ (fun p hp => by rw [show loopsOf (bodyOf Go.Proofs.Try.f99) = [] by kernel_rfl] at hp; cases hp))
    (fun α ls k => g99Main ls k)
theorem g99Ok (m : Nat) : RowOk Go.Proofs.Try.prog 99 (fun {α} => rowK g99tp g99bp (g99K (g99 (α := α) m))) := row_of (g99Fn m)

/-! ### g77v1: impl.moved -/
def g77v1b {α : Type} (G_g43 : {α : Type} → Int → (Bool → Bool → Bool → Option α) → Option α) (G_g99 : {α : Type} → Int → Nat → Nat → Nat → Nat → (List Int) → (Int → Option α) → Option α)  (p795 : Int) (p796 : Int) (p797 : Int) (p798 : Int) (p799 : Int) (m800 : Nat) (m801 : Nat) (m802 : Nat) (m803 : Nat) (u804 : List Int) (k820 : Int → Int → Option α) : Option α :=
  G_g43 p795
    (fun b805 b806 b807 =>
      cond b805
       (
        G_g99 p796 m800 m801 m802 m803 u804
          (fun x817 =>
            cond b806
             (
              G_g99 p797 m800 m801 m802 m803 u804
                (fun x818 =>
                  k820 x817 x818))
             (
              k820 x817 p797)))
       (
        cond b806
         (
          G_g99 p797 m800 m801 m802 m803 u804
            (fun x819 =>
              k820 p796 x819))
         (
          k820 p796 p797)))
def g77v1 {α : Type} (m : Nat) : Int → Int → Int → Int → Int → Nat → Nat → Nat → Nat → (List Int) → (Int → Int → Option α) → Option α :=
  g77v1b (g43 m) (g99 m)
def g77v1tp : List TP := [(.vl (.agg [(.one (.int .i8)), (.one (.int .i16)), (.one (.int .i16)), (.one (.int .i64)), (.one (.int .i64))])), (.vl (.sv (.clo 99 [(0, 0)])))]
def g77v1bp : List BP := [(false, [(.one (.slc 1 0 1))]), (false, [(.seqv (.int .i64))])]
def g77v1K {α : Type} (G : Int → Int → Int → Int → Int → Nat → Nat → Nat → Nat → (List Int) → (Int → Int → Option α) → Option α) (ls : List Lf) (k : TV → List (List Seg) → List (List Seg) → Option α) : Option α :=
  G (lf ls 0).int (lf ls 1).int (lf ls 2).int (lf ls 3).int (lf ls 4).int (lf ls 5).nat (lf ls 6).nat (lf ls 7).nat (lf ls 8).nat ((lf ls 9).lst (.int .i64))
    (fun y1 y2 => k (.vl (.agg [(.one (.int .i8 (lf ls 0).int)), (.one (.int .i16 y1)), (.one (.int .i16 y2)), (.one (.int .i64 (lf ls 3).int)), (.one (.int .i64 (lf ls 4).int))])) [[(.one (.slc 1 0 1 (lf ls 5).nat (lf ls 6).nat (lf ls 7).nat))], [(.seq (.int .i64) (lf ls 8).nat ((lf ls 9).lst (.int .i64)))]] [])
def g77v1hd (G_g43 : {α : Type} → Int → (Bool → Bool → Bool → Option α) → Option α) (G_g99 : {α : Type} → Int → Nat → Nat → Nat → Nat → (List Int) → (Int → Option α) → Option α)  : Hd where
  call := fun f args Bs k => cond (Nat.beq f 43) (rowK g43tp g43bp (g43K G_g43) args Bs k) (cond (Nat.beq f 99) (rowK g99tp g99bp (g99K G_g99) args Bs k) (none))
  loop := fun id st k => none
  ro := fun f => cond (Nat.beq f 99) [0, 1] ([])
def g77v1h (m : Nat) : Hd := g77v1hd (g43 m) (g99 m)
theorem g77v1Main (G_g43 : {α : Type} → Int → (Bool → Bool → Bool → Option α) → Option α) (G_g99 : {α : Type} → Int → Nat → Nat → Nat → Nat → (List Int) → (Int → Option α) → Option α)  {α : Type} (ls : List Lf) (k : TV → List (List Seg) → List (List Seg) → Option α) :
    g77v1K (g77v1b G_g43 G_g99) ls k = evFun tab (g77v1hd G_g43 G_g99) Go.Proofs.Try.f77 (fillT g77v1tp ls).1 (fillB g77v1bp (fillT g77v1tp ls).2).1 k := by kernel_rfl
theorem g77v1Calls (m : Nat) : (g77v1h m).CallsOk Go.Proofs.Try.prog := (cok_cons (g43Ok m) (cok_cons (g99Ok m) cok_nil))
theorem g77v1Fn (m : Nat) : FnOk Go.Proofs.Try.prog 77 g77v1tp g77v1bp (fun {α} => g77v1K (g77v1 (α := α) m)) :=
  fn_ok (tab := tab) (h := g77v1h m) (fn := Go.Proofs.Try.f77) (F := fun {α} => g77v1K (g77v1 (α := α) m)) tabOk (g77v1Calls m) mixed (by kernel_rfl) (by kernel_rfl) (fun c hc => by
    rw [bodyOf_some hc]
    exact loopsOk_of _ (fun p hp => by rw [show loopsOf (bodyOf Go.Proofs.Try.f77) = [] by kernel_rfl] at hp; cases hp))
    (fun α ls k => g77v1Main (g43 m) (g99 m) ls k)
theorem g77v1Ok (m : Nat) : RowOk Go.Proofs.Try.prog 77 (fun {α} => rowK g77v1tp g77v1bp (g77v1K (g77v1 (α := α) m))) := row_of (g77v1Fn m)

/-! ### g100: slices.Index[[]impl.Node,impl.Node] -/
def g100l0b {α : Type}   (v829 : Int) (a831 : List (List Int)) (v832 : Int) (v833 : Int) (v834 : Int) (v835 : Int) (v836 : Int) (k845 : Int → Option α) (k846 : Option α) (r847 : Int → Option α) (v830 : Int) : Option α :=
  cond (decide (v830 < v829))
   (
    if 0 ≤ v830 ∧ v830 < (a831.length : Nat) then
      if v830.toNat < a831.length then
        cond ((v832 == ((List.getD a831 v830.toNat []).headD 0)) && ((v833 == ((List.getD a831 v830.toNat []).tail.headD 0)) && ((v834 == ((List.getD a831 v830.toNat []).tail.tail.headD 0)) && ((v835 == ((List.getD a831 v830.toNat []).tail.tail.tail.headD 0)) && (v836 == ((List.getD a831 v830.toNat []).tail.tail.tail.tail.headD 0))))))
         (
          k845 v830)
         (
          r847 (IntKind.wrap .i64 (v830 + (1 : Int))))
      else
        none
    else
      none)
   (
    k846)
def g100l0 {α : Type}   (v829 : Int) (a831 : List (List Int)) (v832 : Int) (v833 : Int) (v834 : Int) (v835 : Int) (v836 : Int) (k845 : Int → Option α) (k846 : Option α) : Nat → Int → Option α
  | 0 => fun _ => none
  | m + 1 => fun v830 => g100l0b v829 a831 v832 v833 v834 v835 v836 k845 k846 (g100l0 v829 a831 v832 v833 v834 v835 v836 k845 k846 m) v830
def g100l0M {α : Type} (m : Nat) : Int → (List (List Int)) → Int → Int → Int → Int → Int → (Int → Option α) → (Option α) → Int → Option α :=
  fun v829 a831 v832 v833 v834 v835 v836 k845 k846 v830 => g100l0 v829 a831 v832 v833 v834 v835 v836 k845 k846 m v830
def g100l0D : LoopD := { n := 19, low := [0], sl := [0, 3, 7, 8], bl := [0, 1000001], tp := [(.vl (.sv (.gsl 0 5))), (.vl (.sv (.ptr 1000001 0))), (.vl (.sv (.int .i64))), (.vl (.sv (.int .i64)))], bp := [(false, [(.gro (.rc [.i8, .i16, .i16, .i64, .i64]))]), (true, [(.one (.int .i8)), (.one (.int .i16)), (.one (.int .i16)), (.one (.int .i64)), (.one (.int .i64))])], xs := [(1, [4]), (2, [])] }
def g100l0K {α : Type} (L : Int → (List (List Int)) → Int → Int → Int → Int → Int → (Int → Option α) → (Option α) → Int → Option α) (ls : List Lf) (k : Ex → St → Option α) : Option α :=
  L (lf ls 0).int ((lf ls 2).lst (.rc [.i8, .i16, .i16, .i64, .i64])) (lf ls 3).int (lf ls 4).int (lf ls 5).int (lf ls 6).int (lf ls 7).int
    (fun y0 => k .ret (mkSt 19 [4] [(.vl (.sv (.int .i64 y0)))] [0] [(false, [(.gro (.rc [.i8, .i16, .i16, .i64, .i64]) ((lf ls 2).lst (.rc [.i8, .i16, .i16, .i64, .i64])))])]))
    (k .normal (mkSt 19 [] [] [0] [(false, [(.gro (.rc [.i8, .i16, .i16, .i64, .i64]) ((lf ls 2).lst (.rc [.i8, .i16, .i16, .i64, .i64])))])]))
    (lf ls 1).int
def g100b {α : Type}  (L_g100l0 : {α : Type} → Int → (List (List Int)) → Int → Int → Int → Int → Int → (Int → Option α) → (Option α) → Int → Option α) (p823 : Int) (p824 : Int) (p825 : Int) (p826 : Int) (p827 : Int) (u828 : List (List Int)) (k849 : Int → Option α) : Option α :=
  L_g100l0 ((u828.length : Nat) : Int) u828 p823 p824 p825 p826 p827
    (fun x848 =>
      k849 x848)
    (
      k849 (-1 : Int))
    (0 : Int)
def g100 {α : Type} (m : Nat) : Int → Int → Int → Int → Int → (List (List Int)) → (Int → Option α) → Option α :=
  g100b (g100l0M m)
def g100tp : List TP := [(.vl (.sv (.gsl 0 5))), (.vl (.agg [(.one (.int .i8)), (.one (.int .i16)), (.one (.int .i16)), (.one (.int .i64)), (.one (.int .i64))]))]
def g100bp : List BP := [(false, [(.gro (.rc [.i8, .i16, .i16, .i64, .i64]))])]
def g100K {α : Type} (G : Int → Int → Int → Int → Int → (List (List Int)) → (Int → Option α) → Option α) (ls : List Lf) (k : TV → List (List Seg) → List (List Seg) → Option α) : Option α :=
  G (lf ls 0).int (lf ls 1).int (lf ls 2).int (lf ls 3).int (lf ls 4).int ((lf ls 5).lst (.rc [.i8, .i16, .i16, .i64, .i64]))
    (fun y0 => k (.vl (.sv (.int .i64 y0))) [[(.gro (.rc [.i8, .i16, .i16, .i64, .i64]) ((lf ls 5).lst (.rc [.i8, .i16, .i16, .i64, .i64])))]] [])
def g100hd  (L_g100l0 : {α : Type} → Int → (List (List Int)) → Int → Int → Int → Int → Int → (Int → Option α) → (Option α) → Int → Option α) : Hd where
  call := fun f args Bs k => none
  loop := fun id st k => cond (Nat.beq id 0) (loopH g100l0D (g100l0K L_g100l0) st k) (none)
  ro := fun f => []
def g100h (m : Nat) : Hd := g100hd (g100l0M m)
theorem g100l0Step  (L_g100l0 : {α : Type} → Int → (List (List Int)) → Int → Int → Int → Int → Int → (Int → Option α) → (Option α) → Int → Option α) {α : Type} (L : Int → (List (List Int)) → Int → Int → Int → Int → Int → (Int → Option α) → (Option α) → Int → Option α) (ls : List Lf) (k : Ex → St → Option α) :
    g100l0K (fun v829 a831 v832 v833 v834 v835 v836 k845 k846 v830 => g100l0b v829 a831 v832 v833 v834 v835 v836 k845 k846 (L v829 a831 v832 v833 v834 v835 v836 k845 k846) v830) ls k = ev tab (g100hd L_g100l0) (bodyAt Go.Proofs.Try.f100 0) (atHead g100l0D ls) (loopK g100l0D 0 (loopH g100l0D (g100l0K L)) k) := by kernel_rfl
theorem g100Main  (L_g100l0 : {α : Type} → Int → (List (List Int)) → Int → Int → Int → Int → Int → (Int → Option α) → (Option α) → Int → Option α) {α : Type} (ls : List Lf) (k : TV → List (List Seg) → List (List Seg) → Option α) :
    g100K (g100b L_g100l0) ls k = evFun tab (g100hd L_g100l0) Go.Proofs.Try.f100 (fillT g100tp ls).1 (fillB g100bp (fillT g100tp ls).2).1 k := by kernel_rfl
theorem g100Calls (m : Nat) : (g100h m).CallsOk Go.Proofs.Try.prog := cok_nil
theorem g100l0Ok (m : Nat) (α : Type) (st : St) (k : Ex → St → Option α) (r : α) (h : (g100h m).loop 0 st k = some r) :
    ∃ e st', k e st' = some r ∧ CodeS Go.Proofs.Try.prog (.block 0 (.loop (bodyAt Go.Proofs.Try.f100 0))) st e st' :=
  loop_ok (tab := tab) (h := g100h m) (F := fun n ls k => g100l0K (fun v829 a831 v832 v833 v834 v835 v836 k845 k846 v830 => g100l0 v829 a831 v832 v833 v834 v835 v836 k845 k846 n v830) ls k) tabOk (g100Calls m) mixed (loopsOk_of _ (fun p hp => by rw [show loopsOf (bodyAt Go.Proofs.Try.f100 0) = [] by kernel_rfl] at hp; cases hp))
    (fun _ _ => rfl) (fun n ls k => g100l0Step (g100l0M m) (fun v829 a831 v832 v833 v834 v835 v836 k845 k846 => g100l0 v829 a831 v832 v833 v834 v835 v836 k845 k846 n) ls k) (n := m) h
theorem g100Fn (m : Nat) : FnOk Go.Proofs.Try.prog 100 g100tp g100bp (fun {α} => g100K (g100 (α := α) m)) :=
  fn_ok (tab := tab) (h := g100h m) (fn := Go.Proofs.Try.f100) (F := fun {α} => g100K (g100 (α := α) m)) tabOk (g100Calls m) mixed (by kernel_rfl) (by kernel_rfl) (fun c hc => by
    rw [bodyOf_some hc]
    exact loopsOk_of _ (fun p hp => by
    rw [show loopsOf (bodyOf Go.Proofs.Try.f100) = [(0, bodyAt Go.Proofs.Try.f100 0)] by kernel_rfl] at hp
    simp only [List.mem_cons, List.not_mem_nil, or_false] at hp
    rcases hp with rfl
    exact g100l0Ok m))
    (fun α ls k => g100Main (g100l0M m) ls k)
theorem g100Ok (m : Nat) : RowOk Go.Proofs.Try.prog 100 (fun {α} => rowK g100tp g100bp (g100K (g100 (α := α) m))) := row_of (g100Fn m)

/-! ### g79: impl.share -/
def g79l0b {α : Type} (G_g77v1 : {α : Type} → Int → Int → Int → Int → Int → Nat → Nat → Nat → Nat → (List Int) → (Int → Int → Option α) → Option α) (G_g100 : {α : Type} → Int → Int → Int → Int → Int → (List (List Int)) → (Int → Option α) → Option α)  (m776 : Nat) (m777 : Nat) (m778 : Nat) (v779 : Int) (m781 : Nat) (a782 : List (List Int)) (m784 : Nat) (m785 : Nat) (m786 : Nat) (m787 : Nat) (k857 : (List (List Int)) → (List Int) → Option α) (r858 : Int → (List (List Int)) → (List Int) → Option α) (v780 : Int) (a783 : List (List Int)) (a788 : List Int) : Option α :=
  cond (decide (v780 < v779))
   (
    if 0 ≤ v780 ∧ v780 < (m777 : Nat) then
      if (m776 + v780.toNat) < m781 then
        let x790 : Int := (List.getD a782 (m776 + v780.toNat) []).headD 0
        let x793 : Int := (List.getD a782 (m776 + v780.toNat) []).tail.tail.tail.headD 0
        let x794 : Int := (List.getD a782 (m776 + v780.toNat) []).tail.tail.tail.tail.headD 0
        G_g77v1 x790 ((List.getD a782 (m776 + v780.toNat) []).tail.headD 0) ((List.getD a782 (m776 + v780.toNat) []).tail.tail.headD 0) x793 x794 m784 m785 m786 m787 a788
          (fun x821 x822 =>
            G_g100 x790 x821 x822 x793 x794 a783
              (fun x850 =>
                cond (decide (x850 < (0 : Int)))
                 (
                  if a783.length + 1 ≤ 67108864 then
                    if 0 ≤ v780 ∧ v780 < (m785 : Nat) then
                      if (m784 + v780.toNat) < m787 then
                        r858 (IntKind.wrap .i64 (v780 + (1 : Int))) (a783 ++ [[x790, x821, x822, x793, x794]]) (List.set a788 (m784 + v780.toNat) ((a783.length : Nat) : Int))
                      else
                        none
                    else
                      none
                  else
                    none)
                 (
                  if 0 ≤ v780 ∧ v780 < (m785 : Nat) then
                    if (m784 + v780.toNat) < m787 then
                      r858 (IntKind.wrap .i64 (v780 + (1 : Int))) a783 (List.set a788 (m784 + v780.toNat) x850)
                    else
                      none
                  else
                    none)))
      else
        none
    else
      none)
   (
    k857 a783 a788)
def g79l0 {α : Type} (G_g77v1 : {α : Type} → Int → Int → Int → Int → Int → Nat → Nat → Nat → Nat → (List Int) → (Int → Int → Option α) → Option α) (G_g100 : {α : Type} → Int → Int → Int → Int → Int → (List (List Int)) → (Int → Option α) → Option α)  (m776 : Nat) (m777 : Nat) (m778 : Nat) (v779 : Int) (m781 : Nat) (a782 : List (List Int)) (m784 : Nat) (m785 : Nat) (m786 : Nat) (m787 : Nat) (k857 : (List (List Int)) → (List Int) → Option α) : Nat → Int → (List (List Int)) → (List Int) → Option α
  | 0 => fun _ _ _ => none
  | m + 1 => fun v780 a783 a788 => g79l0b G_g77v1 G_g100 m776 m777 m778 v779 m781 a782 m784 m785 m786 m787 k857 (g79l0 G_g77v1 G_g100 m776 m777 m778 v779 m781 a782 m784 m785 m786 m787 k857 m) v780 a783 a788
def g79l0M {α : Type} (m : Nat) : Nat → Nat → Nat → Int → Nat → (List (List Int)) → Nat → Nat → Nat → Nat → ((List (List Int)) → (List Int) → Option α) → Int → (List (List Int)) → (List Int) → Option α :=
  fun m776 m777 m778 v779 m781 a782 m784 m785 m786 m787 k857 v780 a783 a788 => g79l0 (g77v1 m) (g100 m) m776 m777 m778 v779 m781 a782 m784 m785 m786 m787 k857 m v780 a783 a788
def g79l0D : LoopD := { n := 41, low := [0], sl := [4, 5, 13, 14, 15], bl := [0, 1000001, 1000002, 1000003], tp := [(.vl (.sv (.gsl 1000001 5))), (.vl (.sv (.ptr 1000002 0))), (.vl (.sv (.slc 0 0 5))), (.vl (.sv (.int .i64))), (.vl (.sv (.int .i64)))], bp := [(false, [(.seqv (.rc [.i8, .i16, .i16, .i64, .i64]))]), (true, [(.gro (.rc [.i8, .i16, .i16, .i64, .i64]))]), (true, [(.one (.slc 1000003 0 1))]), (true, [(.seqv (.int .i64))])], xs := [(2, [4, 5])] }
def g79l0K {α : Type} (L : Nat → Nat → Nat → Int → Nat → (List (List Int)) → Nat → Nat → Nat → Nat → ((List (List Int)) → (List Int) → Option α) → Int → (List (List Int)) → (List Int) → Option α) (ls : List Lf) (k : Ex → St → Option α) : Option α :=
  L (lf ls 0).nat (lf ls 1).nat (lf ls 2).nat (lf ls 3).int (lf ls 5).nat ((lf ls 6).lst (.rc [.i8, .i16, .i16, .i64, .i64])) (lf ls 8).nat (lf ls 9).nat (lf ls 10).nat (lf ls 11).nat
    (fun y2 y7 => k .normal (mkSt 41 [4, 5] [(.vl (.sv (.gsl 1000001 5))), (.vl (.sv (.ptr 1000002 0)))] [0, 1000001, 1000002, 1000003] [(false, [(.seq (.rc [.i8, .i16, .i16, .i64, .i64]) (lf ls 5).nat ((lf ls 6).lst (.rc [.i8, .i16, .i16, .i64, .i64])))]), (true, [(.gro (.rc [.i8, .i16, .i16, .i64, .i64]) y2)]), (true, [(.one (.slc 1000003 0 1 (lf ls 8).nat (lf ls 9).nat (lf ls 10).nat))]), (true, [(.seq (.int .i64) (lf ls 11).nat y7)])]))
    (lf ls 4).int ((lf ls 7).lst (.rc [.i8, .i16, .i16, .i64, .i64])) ((lf ls 12).lst (.int .i64))
def g79b {α : Type} (G_g77v1 : {α : Type} → Int → Int → Int → Int → Int → Nat → Nat → Nat → Nat → (List Int) → (Int → Int → Option α) → Option α) (G_g100 : {α : Type} → Int → Int → Int → Int → Int → (List (List Int)) → (Int → Option α) → Option α) (L_g79l0 : {α : Type} → Nat → Nat → Nat → Int → Nat → (List (List Int)) → Nat → Nat → Nat → Nat → ((List (List Int)) → (List Int) → Option α) → Int → (List (List Int)) → (List Int) → Option α) (m770 : Nat) (m771 : Nat) (m772 : Nat) (m773 : Nat) (u774 : List (List Int)) (k861 : (List (List Int)) → (List Int) → Option α) : Option α :=
  if ((m771 : Nat) : Int) = ((m771 : Nat) : Int) ∧ 0 ≤ ((m771 : Nat) : Int) ∧ ((m771 : Nat) : Int) ≤ 1048576 then
    L_g79l0 m770 m771 m772 ((m771 : Nat) : Int) m773 u774 0 m771 m771 m771
      (fun l859 l860 =>
        k861 l859 l860)
      (0 : Int) [] (List.replicate m771 (0 : Int))
  else
    none
def g79 {α : Type} (m : Nat) : Nat → Nat → Nat → Nat → (List (List Int)) → ((List (List Int)) → (List Int) → Option α) → Option α :=
  g79b (g77v1 m) (g100 m) (g79l0M m)
def g79tp : List TP := [(.vl (.sv (.slc 0 0 5)))]
def g79bp : List BP := [(false, [(.seqv (.rc [.i8, .i16, .i16, .i64, .i64]))])]
def g79K {α : Type} (G : Nat → Nat → Nat → Nat → (List (List Int)) → ((List (List Int)) → (List Int) → Option α) → Option α) (ls : List Lf) (k : TV → List (List Seg) → List (List Seg) → Option α) : Option α :=
  G (lf ls 0).nat (lf ls 1).nat (lf ls 2).nat (lf ls 3).nat ((lf ls 4).lst (.rc [.i8, .i16, .i16, .i64, .i64]))
    (fun y5 y7 => k (.tup [(.sv (.gsl 1 5)), (.sv (.slc 2 0 1 0 (lf ls 1).nat (lf ls 1).nat))]) [[(.seq (.rc [.i8, .i16, .i16, .i64, .i64]) (lf ls 3).nat ((lf ls 4).lst (.rc [.i8, .i16, .i16, .i64, .i64])))]] [[(.gro (.rc [.i8, .i16, .i16, .i64, .i64]) y5)], [(.seq (.int .i64) (lf ls 1).nat y7)]])
def g79hd (G_g77v1 : {α : Type} → Int → Int → Int → Int → Int → Nat → Nat → Nat → Nat → (List Int) → (Int → Int → Option α) → Option α) (G_g100 : {α : Type} → Int → Int → Int → Int → Int → (List (List Int)) → (Int → Option α) → Option α) (L_g79l0 : {α : Type} → Nat → Nat → Nat → Int → Nat → (List (List Int)) → Nat → Nat → Nat → Nat → ((List (List Int)) → (List Int) → Option α) → Int → (List (List Int)) → (List Int) → Option α) : Hd where
  call := fun f args Bs k => cond (Nat.beq f 77) (rowK g77v1tp g77v1bp (g77v1K G_g77v1) args Bs k) (cond (Nat.beq f 100) (rowK g100tp g100bp (g100K G_g100) args Bs k) (none))
  loop := fun id st k => cond (Nat.beq id 0) (loopH g79l0D (g79l0K L_g79l0) st k) (none)
  ro := fun f => cond (Nat.beq f 77) [0, 1] (cond (Nat.beq f 100) [0] ([]))
def g79h (m : Nat) : Hd := g79hd (g77v1 m) (g100 m) (g79l0M m)
theorem g79l0Step (G_g77v1 : {α : Type} → Int → Int → Int → Int → Int → Nat → Nat → Nat → Nat → (List Int) → (Int → Int → Option α) → Option α) (G_g100 : {α : Type} → Int → Int → Int → Int → Int → (List (List Int)) → (Int → Option α) → Option α) (L_g79l0 : {α : Type} → Nat → Nat → Nat → Int → Nat → (List (List Int)) → Nat → Nat → Nat → Nat → ((List (List Int)) → (List Int) → Option α) → Int → (List (List Int)) → (List Int) → Option α) {α : Type} (L : Nat → Nat → Nat → Int → Nat → (List (List Int)) → Nat → Nat → Nat → Nat → ((List (List Int)) → (List Int) → Option α) → Int → (List (List Int)) → (List Int) → Option α) (ls : List Lf) (k : Ex → St → Option α) :
    g79l0K (fun m776 m777 m778 v779 m781 a782 m784 m785 m786 m787 k857 v780 a783 a788 => g79l0b G_g77v1 G_g100 m776 m777 m778 v779 m781 a782 m784 m785 m786 m787 k857 (L m776 m777 m778 v779 m781 a782 m784 m785 m786 m787 k857) v780 a783 a788) ls k = ev tab (g79hd G_g77v1 G_g100 L_g79l0) (bodyAt Go.Proofs.Try.f79 0) (atHead g79l0D ls) (loopK g79l0D 0 (loopH g79l0D (g79l0K L)) k) := by kernel_rfl
theorem g79Main (G_g77v1 : {α : Type} → Int → Int → Int → Int → Int → Nat → Nat → Nat → Nat → (List Int) → (Int → Int → Option α) → Option α) (G_g100 : {α : Type} → Int → Int → Int → Int → Int → (List (List Int)) → (Int → Option α) → Option α) (L_g79l0 : {α : Type} → Nat → Nat → Nat → Int → Nat → (List (List Int)) → Nat → Nat → Nat → Nat → ((List (List Int)) → (List Int) → Option α) → Int → (List (List Int)) → (List Int) → Option α) {α : Type} (ls : List Lf) (k : TV → List (List Seg) → List (List Seg) → Option α) :
    g79K (g79b G_g77v1 G_g100 L_g79l0) ls k = evFun tab (g79hd G_g77v1 G_g100 L_g79l0) Go.Proofs.Try.f79 (fillT g79tp ls).1 (fillB g79bp (fillT g79tp ls).2).1 k := by kernel_rfl
theorem g79Calls (m : Nat) : (g79h m).CallsOk Go.Proofs.Try.prog := (cok_cons (g77v1Ok m) (cok_cons (g100Ok m) cok_nil))
theorem g79l0Ok (m : Nat) (α : Type) (st : St) (k : Ex → St → Option α) (r : α) (h : (g79h m).loop 0 st k = some r) :
    ∃ e st', k e st' = some r ∧ CodeS Go.Proofs.Try.prog (.block 0 (.loop (bodyAt Go.Proofs.Try.f79 0))) st e st' :=
  loop_ok (tab := tab) (h := g79h m) (F := fun n ls k => g79l0K (fun m776 m777 m778 v779 m781 a782 m784 m785 m786 m787 k857 v780 a783 a788 => g79l0 (g77v1 m) (g100 m) m776 m777 m778 v779 m781 a782 m784 m785 m786 m787 k857 n v780 a783 a788) ls k) tabOk (g79Calls m) mixed (loopsOk_of _ (fun p hp => by rw [show loopsOf (bodyAt Go.Proofs.Try.f79 0) = [] by kernel_rfl] at hp; cases hp))
    (fun _ _ => rfl) (fun n ls k => g79l0Step (g77v1 m) (g100 m) (g79l0M m) (fun m776 m777 m778 v779 m781 a782 m784 m785 m786 m787 k857 => g79l0 (g77v1 m) (g100 m) m776 m777 m778 v779 m781 a782 m784 m785 m786 m787 k857 n) ls k) (n := m) h
theorem g79Fn (m : Nat) : FnOk Go.Proofs.Try.prog 79 g79tp g79bp (fun {α} => g79K (g79 (α := α) m)) :=
  fn_ok (tab := tab) (h := g79h m) (fn := Go.Proofs.Try.f79) (F := fun {α} => g79K (g79 (α := α) m)) tabOk (g79Calls m) mixed (by kernel_rfl) (by kernel_rfl) (fun c hc => by
    rw [bodyOf_some hc]
    exact loopsOk_of _ (fun p hp => by
    rw [show loopsOf (bodyOf Go.Proofs.Try.f79) = [(0, bodyAt Go.Proofs.Try.f79 0)] by kernel_rfl] at hp
    simp only [List.mem_cons, List.not_mem_nil, or_false] at hp
    rcases hp with rfl
    exact g79l0Ok m))
    (fun α ls k => g79Main (g77v1 m) (g100 m) (g79l0M m) ls k)
theorem g79Ok (m : Nat) : RowOk Go.Proofs.Try.prog 79 (fun {α} => rowK g79tp g79bp (g79K (g79 (α := α) m))) := row_of (g79Fn m)

/-! ### g36: impl.ShareTerm -/
def g36b {α : Type} (G_g17 : {α : Type} → Nat → Nat → Nat → Nat → (List (List Int)) → (Bool → Option α) → Option α) (G_g79 : {α : Type} → Nat → Nat → Nat → Nat → (List (List Int)) → ((List (List Int)) → (List Int) → Option α) → Option α)  (m763 : Nat) (m764 : Nat) (m765 : Nat) (m766 : Nat) (u767 : List (List Int)) (k864 : Option α) (k865 : (List (List Int)) → (List Int) → Option α) : Option α :=
  G_g17 m763 m764 m765 m766 u767
    (fun b768 =>
      cond (!b768)
       (
        k864)
       (
        G_g79 m763 m764 m765 m766 u767
          (fun l862 l863 =>
            k865 l862 l863)))
def g36 {α : Type} (m : Nat) : Nat → Nat → Nat → Nat → (List (List Int)) → (Option α) → ((List (List Int)) → (List Int) → Option α) → Option α :=
  g36b (g17 m) (g79 m)
def g36tp : List TP := [(.vl (.sv (.slc 0 0 5)))]
def g36bp : List BP := [(false, [(.seqv (.rc [.i8, .i16, .i16, .i64, .i64]))])]
def g36K {α : Type} (G : Nat → Nat → Nat → Nat → (List (List Int)) → (Option α) → ((List (List Int)) → (List Int) → Option α) → Option α) (ls : List Lf) (k : TV → List (List Seg) → List (List Seg) → Option α) : Option α :=
  G (lf ls 0).nat (lf ls 1).nat (lf ls 2).nat (lf ls 3).nat ((lf ls 4).lst (.rc [.i8, .i16, .i16, .i64, .i64]))
    (k (.tup [(.sv .nils), (.sv .nils), (.sv (.int .i64 (1 : Int)))]) [[(.seq (.rc [.i8, .i16, .i16, .i64, .i64]) (lf ls 3).nat ((lf ls 4).lst (.rc [.i8, .i16, .i16, .i64, .i64])))]] [])
    (fun y6 y8 => k (.tup [(.sv (.gsl 1 5)), (.sv (.slc 2 0 1 0 (lf ls 1).nat (lf ls 1).nat)), (.sv (.int .i64 (0 : Int)))]) [[(.seq (.rc [.i8, .i16, .i16, .i64, .i64]) (lf ls 3).nat ((lf ls 4).lst (.rc [.i8, .i16, .i16, .i64, .i64])))]] [[(.gro (.rc [.i8, .i16, .i16, .i64, .i64]) y6)], [(.seq (.int .i64) (lf ls 1).nat y8)]])
def g36hd (G_g17 : {α : Type} → Nat → Nat → Nat → Nat → (List (List Int)) → (Bool → Option α) → Option α) (G_g79 : {α : Type} → Nat → Nat → Nat → Nat → (List (List Int)) → ((List (List Int)) → (List Int) → Option α) → Option α)  : Hd where
  call := fun f args Bs k => cond (Nat.beq f 17) (rowK g17tp g17bp (g17K G_g17) args Bs k) (cond (Nat.beq f 79) (rowK g79tp g79bp (g79K G_g79) args Bs k) (none))
  loop := fun id st k => none
  ro := fun f => cond (Nat.beq f 17) [0] (cond (Nat.beq f 79) [0] ([]))
def g36h (m : Nat) : Hd := g36hd (g17 m) (g79 m)
theorem g36Main (G_g17 : {α : Type} → Nat → Nat → Nat → Nat → (List (List Int)) → (Bool → Option α) → Option α) (G_g79 : {α : Type} → Nat → Nat → Nat → Nat → (List (List Int)) → ((List (List Int)) → (List Int) → Option α) → Option α)  {α : Type} (ls : List Lf) (k : TV → List (List Seg) → List (List Seg) → Option α) :
    g36K (g36b G_g17 G_g79) ls k = evFun tab (g36hd G_g17 G_g79) Go.Proofs.Try.f36 (fillT g36tp ls).1 (fillB g36bp (fillT g36tp ls).2).1 k := by kernel_rfl
theorem g36Calls (m : Nat) : (g36h m).CallsOk Go.Proofs.Try.prog := (cok_cons (g17Ok m) (cok_cons (g79Ok m) cok_nil))
theorem g36Fn (m : Nat) : FnOk Go.Proofs.Try.prog 36 g36tp g36bp (fun {α} => g36K (g36 (α := α) m)) :=
  fn_ok (tab := tab) (h := g36h m) (fn := Go.Proofs.Try.f36) (F := fun {α} => g36K (g36 (α := α) m)) tabOk (g36Calls m) mixed (by kernel_rfl) (by kernel_rfl) (fun c hc => by
    rw [bodyOf_some hc]
    exact loopsOk_of _ (fun p hp => by rw [show loopsOf (bodyOf Go.Proofs.Try.f36) = [] by kernel_rfl] at hp; cases hp))
    (fun α ls k => g36Main (g17 m) (g79 m) ls k)
theorem g36Ok (m : Nat) : RowOk Go.Proofs.Try.prog 36 (fun {α} => rowK g36tp g36bp (g36K (g36 (α := α) m))) := row_of (g36Fn m)

/-! ### g28: laws.eqInt64S -/
def g28l0b {α : Type}   (v870 : Int) (a871 : List Int) (k873 : Option α) (r874 : Option α)  : Option α :=
  cond (decide (v870 < (0 : Int)))
   (
    none)
   (
    k873)
def g28l0 {α : Type}   (v870 : Int) (a871 : List Int) (k873 : Option α) : Nat → Option α
  | 0 => none
  | m + 1 => g28l0b v870 a871 k873 (g28l0 v870 a871 k873 m)
def g28l0M {α : Type} (m : Nat) : Int → (List Int) → (Option α) → Option α :=
  fun v870 a871 k873  => g28l0 v870 a871 k873 m 
def g28l0D : LoopD := { n := 26, low := [0], sl := [0, 1, 5], bl := [0], tp := [(.vl (.sv .nils)), (.vl (.sv (.gsl 0 1))), (.vl (.sv (.int .i64)))], bp := [(false, [(.gro (.int .i64))])], xs := [(2, [])] }
def g28l0K {α : Type} (L : Int → (List Int) → (Option α) → Option α) (ls : List Lf) (k : Ex → St → Option α) : Option α :=
  L (lf ls 0).int ((lf ls 1).lst (.int .i64))
    (k .normal (mkSt 26 [] [] [0] [(false, [(.gro (.int .i64) ((lf ls 1).lst (.int .i64)))])]))
    
def g28b {α : Type}  (L_g28l0 : {α : Type} → Int → (List Int) → (Option α) → Option α) (u868 : List Int) (k875 : Bool → Option α) : Option α :=
  cond ((0 : Int) != ((u868.length : Nat) : Int))
   (
    k875 false)
   (
    L_g28l0 (0 : Int) u868
      (
        k875 true))
def g28 {α : Type} (m : Nat) : (List Int) → (Bool → Option α) → Option α :=
  g28b (g28l0M m)
def g28tp : List TP := [(.vl (.sv .nils)), (.vl (.sv (.gsl 0 1)))]
def g28bp : List BP := [(false, [(.gro (.int .i64))])]
def g28K {α : Type} (G : (List Int) → (Bool → Option α) → Option α) (ls : List Lf) (k : TV → List (List Seg) → List (List Seg) → Option α) : Option α :=
  G ((lf ls 0).lst (.int .i64))
    (fun y0 => k (.vl (.sv (.bool y0))) [[(.gro (.int .i64) ((lf ls 0).lst (.int .i64)))]] [])
def g28hd  (L_g28l0 : {α : Type} → Int → (List Int) → (Option α) → Option α) : Hd where
  call := fun f args Bs k => none
  loop := fun id st k => cond (Nat.beq id 0) (loopH g28l0D (g28l0K L_g28l0) st k) (none)
  ro := fun f => []
def g28h (m : Nat) : Hd := g28hd (g28l0M m)
theorem g28l0Step  (L_g28l0 : {α : Type} → Int → (List Int) → (Option α) → Option α) {α : Type} (L : Int → (List Int) → (Option α) → Option α) (ls : List Lf) (k : Ex → St → Option α) :
    g28l0K (fun v870 a871 k873 => g28l0b v870 a871 k873 (L v870 a871 k873) ) ls k = ev tab (g28hd L_g28l0) (bodyAt Go.Proofs.Try.f28 0) (atHead g28l0D ls) (loopK g28l0D 0 (loopH g28l0D (g28l0K L)) k) := by kernel_rfl
theorem g28Main  (L_g28l0 : {α : Type} → Int → (List Int) → (Option α) → Option α) {α : Type} (ls : List Lf) (k : TV → List (List Seg) → List (List Seg) → Option α) :
    g28K (g28b L_g28l0) ls k = evFun tab (g28hd L_g28l0) Go.Proofs.Try.f28 (fillT g28tp ls).1 (fillB g28bp (fillT g28tp ls).2).1 k := by kernel_rfl
theorem g28Calls (m : Nat) : (g28h m).CallsOk Go.Proofs.Try.prog := cok_nil
theorem g28l0Ok (m : Nat) (α : Type) (st : St) (k : Ex → St → Option α) (r : α) (h : (g28h m).loop 0 st k = some r) :
    ∃ e st', k e st' = some r ∧ CodeS Go.Proofs.Try.prog (.block 0 (.loop (bodyAt Go.Proofs.Try.f28 0))) st e st' :=
  loop_ok (tab := tab) (h := g28h m) (F := fun n ls k => g28l0K (fun v870 a871 k873 => g28l0 v870 a871 k873 n ) ls k) tabOk (g28Calls m) mixed (loopsOk_of _ (fun p hp => by rw [show loopsOf (bodyAt Go.Proofs.Try.f28 0) = [] by kernel_rfl] at hp; cases hp))
    (fun _ _ => rfl) (fun n ls k => g28l0Step (g28l0M m) (fun v870 a871 k873 => g28l0 v870 a871 k873 n) ls k) (n := m) h
theorem g28Fn (m : Nat) : FnOk Go.Proofs.Try.prog 28 g28tp g28bp (fun {α} => g28K (g28 (α := α) m)) :=
  fn_ok (tab := tab) (h := g28h m) (fn := Go.Proofs.Try.f28) (F := fun {α} => g28K (g28 (α := α) m)) tabOk (g28Calls m) mixed (by kernel_rfl) (by kernel_rfl) (fun c hc => by
    rw [bodyOf_some hc]
    exact loopsOk_of _ (fun p hp => by
    rw [show loopsOf (bodyOf Go.Proofs.Try.f28) = [(0, bodyAt Go.Proofs.Try.f28 0)] by kernel_rfl] at hp
    simp only [List.mem_cons, List.not_mem_nil, or_false] at hp
    rcases hp with rfl
    exact g28l0Ok m))
    (fun α ls k => g28Main (g28l0M m) ls k)
theorem g28Ok (m : Nat) : RowOk Go.Proofs.Try.prog 28 (fun {α} => rowK g28tp g28bp (g28K (g28 (α := α) m))) := row_of (g28Fn m)

/-! ### g30: laws.markInt64S -/
def g30l0b {α : Type}   (v889 : Int) (v890 : Int) (k892 : Option α) (r893 : Option α)  : Option α :=
  cond (decide (v890 < (0 : Int)))
   (
    none)
   (
    k892)
def g30l0 {α : Type}   (v889 : Int) (v890 : Int) (k892 : Option α) : Nat → Option α
  | 0 => none
  | m + 1 => g30l0b v889 v890 k892 (g30l0 v889 v890 k892 m)
def g30l0M {α : Type} (m : Nat) : Int → Int → (Option α) → Option α :=
  fun v889 v890 k892  => g30l0 v889 v890 k892 m 
def g30l0D : LoopD := { n := 19, low := [], sl := [0, 1, 5], bl := [], tp := [(.vl (.sv .nils)), (.vl (.sv (.int .i64))), (.vl (.sv (.int .i64)))], bp := [], xs := [(2, [1])] }
def g30l0K {α : Type} (L : Int → Int → (Option α) → Option α) (ls : List Lf) (k : Ex → St → Option α) : Option α :=
  L (lf ls 0).int (lf ls 1).int
    (k .normal (mkSt 19 [1] [(.vl (.sv (.int .i64 (lf ls 0).int)))] [] []))
    
def g30b {α : Type}  (L_g30l0 : {α : Type} → Int → Int → (Option α) → Option α) (p888 : Int) (k894 : Option α) : Option α :=
  L_g30l0 p888 (0 : Int)
    (
      k894)
def g30 {α : Type} (m : Nat) : Int → (Option α) → Option α :=
  g30b (g30l0M m)
def g30tp : List TP := [(.vl (.sv .nils)), (.vl (.sv (.int .i64)))]
def g30bp : List BP := []
def g30K {α : Type} (G : Int → (Option α) → Option α) (ls : List Lf) (k : TV → List (List Seg) → List (List Seg) → Option α) : Option α :=
  G (lf ls 0).int
    (k (.vl (.sv (.int .i64 (lf ls 0).int))) [] [])
def g30hd  (L_g30l0 : {α : Type} → Int → Int → (Option α) → Option α) : Hd where
  call := fun f args Bs k => none
  loop := fun id st k => cond (Nat.beq id 0) (loopH g30l0D (g30l0K L_g30l0) st k) (none)
  ro := fun f => []
def g30h (m : Nat) : Hd := g30hd (g30l0M m)
theorem g30l0Step  (L_g30l0 : {α : Type} → Int → Int → (Option α) → Option α) {α : Type} (L : Int → Int → (Option α) → Option α) (ls : List Lf) (k : Ex → St → Option α) :
    g30l0K (fun v889 v890 k892 => g30l0b v889 v890 k892 (L v889 v890 k892) ) ls k = ev tab (g30hd L_g30l0) (bodyAt Go.Proofs.Try.f30 0) (atHead g30l0D ls) (loopK g30l0D 0 (loopH g30l0D (g30l0K L)) k) := by kernel_rfl
theorem g30Main  (L_g30l0 : {α : Type} → Int → Int → (Option α) → Option α) {α : Type} (ls : List Lf) (k : TV → List (List Seg) → List (List Seg) → Option α) :
    g30K (g30b L_g30l0) ls k = evFun tab (g30hd L_g30l0) Go.Proofs.Try.f30 (fillT g30tp ls).1 (fillB g30bp (fillT g30tp ls).2).1 k := by kernel_rfl
theorem g30Calls (m : Nat) : (g30h m).CallsOk Go.Proofs.Try.prog := cok_nil
theorem g30l0Ok (m : Nat) (α : Type) (st : St) (k : Ex → St → Option α) (r : α) (h : (g30h m).loop 0 st k = some r) :
    ∃ e st', k e st' = some r ∧ CodeS Go.Proofs.Try.prog (.block 0 (.loop (bodyAt Go.Proofs.Try.f30 0))) st e st' :=
  loop_ok (tab := tab) (h := g30h m) (F := fun n ls k => g30l0K (fun v889 v890 k892 => g30l0 v889 v890 k892 n ) ls k) tabOk (g30Calls m) mixed (loopsOk_of _ (fun p hp => by rw [show loopsOf (bodyAt Go.Proofs.Try.f30 0) = [] by kernel_rfl] at hp; cases hp))
    (fun _ _ => rfl) (fun n ls k => g30l0Step (g30l0M m) (fun v889 v890 k892 => g30l0 v889 v890 k892 n) ls k) (n := m) h
theorem g30Fn (m : Nat) : FnOk Go.Proofs.Try.prog 30 g30tp g30bp (fun {α} => g30K (g30 (α := α) m)) :=
  fn_ok (tab := tab) (h := g30h m) (fn := Go.Proofs.Try.f30) (F := fun {α} => g30K (g30 (α := α) m)) tabOk (g30Calls m) mixed (by kernel_rfl) (by kernel_rfl) (fun c hc => by
    rw [bodyOf_some hc]
    exact loopsOk_of _ (fun p hp => by
    rw [show loopsOf (bodyOf Go.Proofs.Try.f30) = [(0, bodyAt Go.Proofs.Try.f30 0)] by kernel_rfl] at hp
    simp only [List.mem_cons, List.not_mem_nil, or_false] at hp
    rcases hp with rfl
    exact g30l0Ok m))
    (fun α ls k => g30Main (g30l0M m) ls k)
theorem g30Ok (m : Nat) : RowOk Go.Proofs.Try.prog 30 (fun {α} => rowK g30tp g30bp (g30K (g30 (α := α) m))) := row_of (g30Fn m)

/-! ### g31: laws.heldInt64S -/
def g31l0b {α : Type}   (v896 : Int) (v897 : Int) (k899 : Option α) (r900 : Option α)  : Option α :=
  cond (decide (v897 < (0 : Int)))
   (
    none)
   (
    k899)
def g31l0 {α : Type}   (v896 : Int) (v897 : Int) (k899 : Option α) : Nat → Option α
  | 0 => none
  | m + 1 => g31l0b v896 v897 k899 (g31l0 v896 v897 k899 m)
def g31l0M {α : Type} (m : Nat) : Int → Int → (Option α) → Option α :=
  fun v896 v897 k899  => g31l0 v896 v897 k899 m 
def g31l0D : LoopD := { n := 21, low := [], sl := [0, 1, 5], bl := [], tp := [(.vl (.sv .nils)), (.vl (.sv (.int .i64))), (.vl (.sv (.int .i64)))], bp := [], xs := [(2, [1])] }
def g31l0K {α : Type} (L : Int → Int → (Option α) → Option α) (ls : List Lf) (k : Ex → St → Option α) : Option α :=
  L (lf ls 0).int (lf ls 1).int
    (k .normal (mkSt 21 [1] [(.vl (.sv (.int .i64 (lf ls 0).int)))] [] []))
    
def g31b {α : Type}  (L_g31l0 : {α : Type} → Int → Int → (Option α) → Option α) (p895 : Int) (k901 : Option α) : Option α :=
  L_g31l0 p895 (0 : Int)
    (
      k901)
def g31 {α : Type} (m : Nat) : Int → (Option α) → Option α :=
  g31b (g31l0M m)
def g31tp : List TP := [(.vl (.sv .nils)), (.vl (.sv (.int .i64)))]
def g31bp : List BP := []
def g31K {α : Type} (G : Int → (Option α) → Option α) (ls : List Lf) (k : TV → List (List Seg) → List (List Seg) → Option α) : Option α :=
  G (lf ls 0).int
    (k (.vl (.sv (.int .i64 (lf ls 0).int))) [] [])
def g31hd  (L_g31l0 : {α : Type} → Int → Int → (Option α) → Option α) : Hd where
  call := fun f args Bs k => none
  loop := fun id st k => cond (Nat.beq id 0) (loopH g31l0D (g31l0K L_g31l0) st k) (none)
  ro := fun f => []
def g31h (m : Nat) : Hd := g31hd (g31l0M m)
theorem g31l0Step  (L_g31l0 : {α : Type} → Int → Int → (Option α) → Option α) {α : Type} (L : Int → Int → (Option α) → Option α) (ls : List Lf) (k : Ex → St → Option α) :
    g31l0K (fun v896 v897 k899 => g31l0b v896 v897 k899 (L v896 v897 k899) ) ls k = ev tab (g31hd L_g31l0) (bodyAt Go.Proofs.Try.f31 0) (atHead g31l0D ls) (loopK g31l0D 0 (loopH g31l0D (g31l0K L)) k) := by kernel_rfl
theorem g31Main  (L_g31l0 : {α : Type} → Int → Int → (Option α) → Option α) {α : Type} (ls : List Lf) (k : TV → List (List Seg) → List (List Seg) → Option α) :
    g31K (g31b L_g31l0) ls k = evFun tab (g31hd L_g31l0) Go.Proofs.Try.f31 (fillT g31tp ls).1 (fillB g31bp (fillT g31tp ls).2).1 k := by kernel_rfl
theorem g31Calls (m : Nat) : (g31h m).CallsOk Go.Proofs.Try.prog := cok_nil
theorem g31l0Ok (m : Nat) (α : Type) (st : St) (k : Ex → St → Option α) (r : α) (h : (g31h m).loop 0 st k = some r) :
    ∃ e st', k e st' = some r ∧ CodeS Go.Proofs.Try.prog (.block 0 (.loop (bodyAt Go.Proofs.Try.f31 0))) st e st' :=
  loop_ok (tab := tab) (h := g31h m) (F := fun n ls k => g31l0K (fun v896 v897 k899 => g31l0 v896 v897 k899 n ) ls k) tabOk (g31Calls m) mixed (loopsOk_of _ (fun p hp => by rw [show loopsOf (bodyAt Go.Proofs.Try.f31 0) = [] by kernel_rfl] at hp; cases hp))
    (fun _ _ => rfl) (fun n ls k => g31l0Step (g31l0M m) (fun v896 v897 k899 => g31l0 v896 v897 k899 n) ls k) (n := m) h
theorem g31Fn (m : Nat) : FnOk Go.Proofs.Try.prog 31 g31tp g31bp (fun {α} => g31K (g31 (α := α) m)) :=
  fn_ok (tab := tab) (h := g31h m) (fn := Go.Proofs.Try.f31) (F := fun {α} => g31K (g31 (α := α) m)) tabOk (g31Calls m) mixed (by kernel_rfl) (by kernel_rfl) (fun c hc => by
    rw [bodyOf_some hc]
    exact loopsOk_of _ (fun p hp => by
    rw [show loopsOf (bodyOf Go.Proofs.Try.f31) = [(0, bodyAt Go.Proofs.Try.f31 0)] by kernel_rfl] at hp
    simp only [List.mem_cons, List.not_mem_nil, or_false] at hp
    rcases hp with rfl
    exact g31l0Ok m))
    (fun α ls k => g31Main (g31l0M m) ls k)
theorem g31Ok (m : Nat) : RowOk Go.Proofs.Try.prog 31 (fun {α} => rowK g31tp g31bp (g31K (g31 (α := α) m))) := row_of (g31Fn m)

/-! ### g28v1: laws.eqInt64S -/
def g28v1l0b {α : Type}   (m918 : Nat) (m919 : Nat) (m920 : Nat) (m922 : Nat) (a923 : List Int) (a924 : List Int) (k930 : Option α) (k931 : Option α) (r932 : Int → Option α) (v921 : Int) : Option α :=
  cond (decide (v921 < ((m919 : Nat) : Int)))
   (
    if 0 ≤ v921 ∧ v921 < (m919 : Nat) then
      if (m918 + v921.toNat) < m922 then
        if 0 ≤ v921 ∧ v921 < (a924.length : Nat) then
          if v921.toNat < a924.length then
            cond ((List.getD a923 (m918 + v921.toNat) 0) != (List.getD a924 v921.toNat 0))
             (
              k930)
             (
              r932 (IntKind.wrap .i64 (v921 + (1 : Int))))
          else
            none
        else
          none
      else
        none
    else
      none)
   (
    k931)
def g28v1l0 {α : Type}   (m918 : Nat) (m919 : Nat) (m920 : Nat) (m922 : Nat) (a923 : List Int) (a924 : List Int) (k930 : Option α) (k931 : Option α) : Nat → Int → Option α
  | 0 => fun _ => none
  | m + 1 => fun v921 => g28v1l0b m918 m919 m920 m922 a923 a924 k930 k931 (g28v1l0 m918 m919 m920 m922 a923 a924 k930 k931 m) v921
def g28v1l0M {α : Type} (m : Nat) : Nat → Nat → Nat → Nat → (List Int) → (List Int) → (Option α) → (Option α) → Int → Option α :=
  fun m918 m919 m920 m922 a923 a924 k930 k931 v921 => g28v1l0 m918 m919 m920 m922 a923 a924 k930 k931 m v921
def g28v1l0D : LoopD := { n := 26, low := [0, 1], sl := [0, 1, 5], bl := [0, 1], tp := [(.vl (.sv (.slc 0 0 1))), (.vl (.sv (.gsl 1 1))), (.vl (.sv (.int .i64)))], bp := [(false, [(.seqv (.int .i64))]), (false, [(.gro (.int .i64))])], xs := [(1, [4]), (2, [])] }
def g28v1l0K {α : Type} (L : Nat → Nat → Nat → Nat → (List Int) → (List Int) → (Option α) → (Option α) → Int → Option α) (ls : List Lf) (k : Ex → St → Option α) : Option α :=
  L (lf ls 0).nat (lf ls 1).nat (lf ls 2).nat (lf ls 4).nat ((lf ls 5).lst (.int .i64)) ((lf ls 6).lst (.int .i64))
    (k .ret (mkSt 26 [4] [(.vl (.sv (.bool false)))] [0, 1] [(false, [(.seq (.int .i64) (lf ls 4).nat ((lf ls 5).lst (.int .i64)))]), (false, [(.gro (.int .i64) ((lf ls 6).lst (.int .i64)))])]))
    (k .normal (mkSt 26 [] [] [0, 1] [(false, [(.seq (.int .i64) (lf ls 4).nat ((lf ls 5).lst (.int .i64)))]), (false, [(.gro (.int .i64) ((lf ls 6).lst (.int .i64)))])]))
    (lf ls 3).int
def g28v1b {α : Type}  (L_g28v1l0 : {α : Type} → Nat → Nat → Nat → Nat → (List Int) → (List Int) → (Option α) → (Option α) → Int → Option α) (m911 : Nat) (m912 : Nat) (m913 : Nat) (m914 : Nat) (u915 : List Int) (u916 : List Int) (k933 : Bool → Option α) : Option α :=
  cond (((m912 : Nat) : Int) != ((u916.length : Nat) : Int))
   (
    k933 false)
   (
    L_g28v1l0 m911 m912 m913 m914 u915 u916
      (
        k933 false)
      (
        k933 true)
      (0 : Int))
def g28v1 {α : Type} (m : Nat) : Nat → Nat → Nat → Nat → (List Int) → (List Int) → (Bool → Option α) → Option α :=
  g28v1b (g28v1l0M m)
def g28v1tp : List TP := [(.vl (.sv (.slc 0 0 1))), (.vl (.sv (.gsl 1 1)))]
def g28v1bp : List BP := [(false, [(.seqv (.int .i64))]), (false, [(.gro (.int .i64))])]
def g28v1K {α : Type} (G : Nat → Nat → Nat → Nat → (List Int) → (List Int) → (Bool → Option α) → Option α) (ls : List Lf) (k : TV → List (List Seg) → List (List Seg) → Option α) : Option α :=
  G (lf ls 0).nat (lf ls 1).nat (lf ls 2).nat (lf ls 3).nat ((lf ls 4).lst (.int .i64)) ((lf ls 5).lst (.int .i64))
    (fun y0 => k (.vl (.sv (.bool y0))) [[(.seq (.int .i64) (lf ls 3).nat ((lf ls 4).lst (.int .i64)))], [(.gro (.int .i64) ((lf ls 5).lst (.int .i64)))]] [])
def g28v1hd  (L_g28v1l0 : {α : Type} → Nat → Nat → Nat → Nat → (List Int) → (List Int) → (Option α) → (Option α) → Int → Option α) : Hd where
  call := fun f args Bs k => none
  loop := fun id st k => cond (Nat.beq id 0) (loopH g28v1l0D (g28v1l0K L_g28v1l0) st k) (none)
  ro := fun f => []
def g28v1h (m : Nat) : Hd := g28v1hd (g28v1l0M m)
theorem g28v1l0Step  (L_g28v1l0 : {α : Type} → Nat → Nat → Nat → Nat → (List Int) → (List Int) → (Option α) → (Option α) → Int → Option α) {α : Type} (L : Nat → Nat → Nat → Nat → (List Int) → (List Int) → (Option α) → (Option α) → Int → Option α) (ls : List Lf) (k : Ex → St → Option α) :
    g28v1l0K (fun m918 m919 m920 m922 a923 a924 k930 k931 v921 => g28v1l0b m918 m919 m920 m922 a923 a924 k930 k931 (L m918 m919 m920 m922 a923 a924 k930 k931) v921) ls k = ev tab (g28v1hd L_g28v1l0) (bodyAt Go.Proofs.Try.f28 0) (atHead g28v1l0D ls) (loopK g28v1l0D 0 (loopH g28v1l0D (g28v1l0K L)) k) := by kernel_rfl
theorem g28v1Main  (L_g28v1l0 : {α : Type} → Nat → Nat → Nat → Nat → (List Int) → (List Int) → (Option α) → (Option α) → Int → Option α) {α : Type} (ls : List Lf) (k : TV → List (List Seg) → List (List Seg) → Option α) :
    g28v1K (g28v1b L_g28v1l0) ls k = evFun tab (g28v1hd L_g28v1l0) Go.Proofs.Try.f28 (fillT g28v1tp ls).1 (fillB g28v1bp (fillT g28v1tp ls).2).1 k := by kernel_rfl
theorem g28v1Calls (m : Nat) : (g28v1h m).CallsOk Go.Proofs.Try.prog := cok_nil
theorem g28v1l0Ok (m : Nat) (α : Type) (st : St) (k : Ex → St → Option α) (r : α) (h : (g28v1h m).loop 0 st k = some r) :
    ∃ e st', k e st' = some r ∧ CodeS Go.Proofs.Try.prog (.block 0 (.loop (bodyAt Go.Proofs.Try.f28 0))) st e st' :=
  loop_ok (tab := tab) (h := g28v1h m) (F := fun n ls k => g28v1l0K (fun m918 m919 m920 m922 a923 a924 k930 k931 v921 => g28v1l0 m918 m919 m920 m922 a923 a924 k930 k931 n v921) ls k) tabOk (g28v1Calls m) mixed (loopsOk_of _ (fun p hp => by rw [show loopsOf (bodyAt Go.Proofs.Try.f28 0) = [] by kernel_rfl] at hp; cases hp))
    (fun _ _ => rfl) (fun n ls k => g28v1l0Step (g28v1l0M m) (fun m918 m919 m920 m922 a923 a924 k930 k931 => g28v1l0 m918 m919 m920 m922 a923 a924 k930 k931 n) ls k) (n := m) h
theorem g28v1Fn (m : Nat) : FnOk Go.Proofs.Try.prog 28 g28v1tp g28v1bp (fun {α} => g28v1K (g28v1 (α := α) m)) :=
  fn_ok (tab := tab) (h := g28v1h m) (fn := Go.Proofs.Try.f28) (F := fun {α} => g28v1K (g28v1 (α := α) m)) tabOk (g28v1Calls m) mixed (by kernel_rfl) (by kernel_rfl) (fun c hc => by
    rw [bodyOf_some hc]
    exact loopsOk_of _ (fun p hp => by
    rw [show loopsOf (bodyOf Go.Proofs.Try.f28) = [(0, bodyAt Go.Proofs.Try.f28 0)] by kernel_rfl] at hp
    simp only [List.mem_cons, List.not_mem_nil, or_false] at hp
    rcases hp with rfl
    exact g28v1l0Ok m))
    (fun α ls k => g28v1Main (g28v1l0M m) ls k)
theorem g28v1Ok (m : Nat) : RowOk Go.Proofs.Try.prog 28 (fun {α} => rowK g28v1tp g28v1bp (g28v1K (g28v1 (α := α) m))) := row_of (g28v1Fn m)

/-! ### g28v2: laws.eqInt64S -/
def g28v2l0b {α : Type}   (m953 : Nat) (m954 : Nat) (m955 : Nat) (v956 : Int) (m957 : Nat) (a958 : List Int) (k960 : Option α) (r961 : Option α)  : Option α :=
  cond (decide (v956 < (0 : Int)))
   (
    none)
   (
    k960)
def g28v2l0 {α : Type}   (m953 : Nat) (m954 : Nat) (m955 : Nat) (v956 : Int) (m957 : Nat) (a958 : List Int) (k960 : Option α) : Nat → Option α
  | 0 => none
  | m + 1 => g28v2l0b m953 m954 m955 v956 m957 a958 k960 (g28v2l0 m953 m954 m955 v956 m957 a958 k960 m)
def g28v2l0M {α : Type} (m : Nat) : Nat → Nat → Nat → Int → Nat → (List Int) → (Option α) → Option α :=
  fun m953 m954 m955 v956 m957 a958 k960  => g28v2l0 m953 m954 m955 v956 m957 a958 k960 m 
def g28v2l0D : LoopD := { n := 26, low := [0], sl := [0, 1, 5], bl := [0], tp := [(.vl (.sv .nils)), (.vl (.sv (.slc 0 0 1))), (.vl (.sv (.int .i64)))], bp := [(false, [(.seqv (.int .i64))])], xs := [(2, [])] }
def g28v2l0K {α : Type} (L : Nat → Nat → Nat → Int → Nat → (List Int) → (Option α) → Option α) (ls : List Lf) (k : Ex → St → Option α) : Option α :=
  L (lf ls 0).nat (lf ls 1).nat (lf ls 2).nat (lf ls 3).int (lf ls 4).nat ((lf ls 5).lst (.int .i64))
    (k .normal (mkSt 26 [] [] [0] [(false, [(.seq (.int .i64) (lf ls 4).nat ((lf ls 5).lst (.int .i64)))])]))
    
def g28v2b {α : Type}  (L_g28v2l0 : {α : Type} → Nat → Nat → Nat → Int → Nat → (List Int) → (Option α) → Option α) (m947 : Nat) (m948 : Nat) (m949 : Nat) (m950 : Nat) (u951 : List Int) (k962 : Bool → Option α) : Option α :=
  cond ((0 : Int) != ((m948 : Nat) : Int))
   (
    k962 false)
   (
    L_g28v2l0 m947 m948 m949 (0 : Int) m950 u951
      (
        k962 true))
def g28v2 {α : Type} (m : Nat) : Nat → Nat → Nat → Nat → (List Int) → (Bool → Option α) → Option α :=
  g28v2b (g28v2l0M m)
def g28v2tp : List TP := [(.vl (.sv .nils)), (.vl (.sv (.slc 0 0 1)))]
def g28v2bp : List BP := [(false, [(.seqv (.int .i64))])]
def g28v2K {α : Type} (G : Nat → Nat → Nat → Nat → (List Int) → (Bool → Option α) → Option α) (ls : List Lf) (k : TV → List (List Seg) → List (List Seg) → Option α) : Option α :=
  G (lf ls 0).nat (lf ls 1).nat (lf ls 2).nat (lf ls 3).nat ((lf ls 4).lst (.int .i64))
    (fun y0 => k (.vl (.sv (.bool y0))) [[(.seq (.int .i64) (lf ls 3).nat ((lf ls 4).lst (.int .i64)))]] [])
def g28v2hd  (L_g28v2l0 : {α : Type} → Nat → Nat → Nat → Int → Nat → (List Int) → (Option α) → Option α) : Hd where
  call := fun f args Bs k => none
  loop := fun id st k => cond (Nat.beq id 0) (loopH g28v2l0D (g28v2l0K L_g28v2l0) st k) (none)
  ro := fun f => []
def g28v2h (m : Nat) : Hd := g28v2hd (g28v2l0M m)
theorem g28v2l0Step  (L_g28v2l0 : {α : Type} → Nat → Nat → Nat → Int → Nat → (List Int) → (Option α) → Option α) {α : Type} (L : Nat → Nat → Nat → Int → Nat → (List Int) → (Option α) → Option α) (ls : List Lf) (k : Ex → St → Option α) :
    g28v2l0K (fun m953 m954 m955 v956 m957 a958 k960 => g28v2l0b m953 m954 m955 v956 m957 a958 k960 (L m953 m954 m955 v956 m957 a958 k960) ) ls k = ev tab (g28v2hd L_g28v2l0) (bodyAt Go.Proofs.Try.f28 0) (atHead g28v2l0D ls) (loopK g28v2l0D 0 (loopH g28v2l0D (g28v2l0K L)) k) := by kernel_rfl
theorem g28v2Main  (L_g28v2l0 : {α : Type} → Nat → Nat → Nat → Int → Nat → (List Int) → (Option α) → Option α) {α : Type} (ls : List Lf) (k : TV → List (List Seg) → List (List Seg) → Option α) :
    g28v2K (g28v2b L_g28v2l0) ls k = evFun tab (g28v2hd L_g28v2l0) Go.Proofs.Try.f28 (fillT g28v2tp ls).1 (fillB g28v2bp (fillT g28v2tp ls).2).1 k := by kernel_rfl
theorem g28v2Calls (m : Nat) : (g28v2h m).CallsOk Go.Proofs.Try.prog := cok_nil
theorem g28v2l0Ok (m : Nat) (α : Type) (st : St) (k : Ex → St → Option α) (r : α) (h : (g28v2h m).loop 0 st k = some r) :
    ∃ e st', k e st' = some r ∧ CodeS Go.Proofs.Try.prog (.block 0 (.loop (bodyAt Go.Proofs.Try.f28 0))) st e st' :=
  loop_ok (tab := tab) (h := g28v2h m) (F := fun n ls k => g28v2l0K (fun m953 m954 m955 v956 m957 a958 k960 => g28v2l0 m953 m954 m955 v956 m957 a958 k960 n ) ls k) tabOk (g28v2Calls m) mixed (loopsOk_of _ (fun p hp => by rw [show loopsOf (bodyAt Go.Proofs.Try.f28 0) = [] by kernel_rfl] at hp; cases hp))
    (fun _ _ => rfl) (fun n ls k => g28v2l0Step (g28v2l0M m) (fun m953 m954 m955 v956 m957 a958 k960 => g28v2l0 m953 m954 m955 v956 m957 a958 k960 n) ls k) (n := m) h
theorem g28v2Fn (m : Nat) : FnOk Go.Proofs.Try.prog 28 g28v2tp g28v2bp (fun {α} => g28v2K (g28v2 (α := α) m)) :=
  fn_ok (tab := tab) (h := g28v2h m) (fn := Go.Proofs.Try.f28) (F := fun {α} => g28v2K (g28v2 (α := α) m)) tabOk (g28v2Calls m) mixed (by kernel_rfl) (by kernel_rfl) (fun c hc => by
    rw [bodyOf_some hc]
    exact loopsOk_of _ (fun p hp => by
    rw [show loopsOf (bodyOf Go.Proofs.Try.f28) = [(0, bodyAt Go.Proofs.Try.f28 0)] by kernel_rfl] at hp
    simp only [List.mem_cons, List.not_mem_nil, or_false] at hp
    rcases hp with rfl
    exact g28v2l0Ok m))
    (fun α ls k => g28v2Main (g28v2l0M m) ls k)
theorem g28v2Ok (m : Nat) : RowOk Go.Proofs.Try.prog 28 (fun {α} => rowK g28v2tp g28v2bp (g28v2K (g28v2 (α := α) m))) := row_of (g28v2Fn m)

/-! ### g28v3: laws.eqInt64S -/
def g28v3l0b {α : Type}   (m980 : Nat) (m981 : Nat) (m982 : Nat) (m983 : Nat) (m984 : Nat) (m985 : Nat) (m987 : Nat) (a988 : List Int) (m989 : Nat) (a990 : List Int) (k996 : Option α) (k997 : Option α) (r998 : Int → Option α) (v986 : Int) : Option α :=
  cond (decide (v986 < ((m981 : Nat) : Int)))
   (
    if 0 ≤ v986 ∧ v986 < (m981 : Nat) then
      if (m980 + v986.toNat) < m987 then
        if 0 ≤ v986 ∧ v986 < (m984 : Nat) then
          if (m983 + v986.toNat) < m989 then
            cond ((List.getD a988 (m980 + v986.toNat) 0) != (List.getD a990 (m983 + v986.toNat) 0))
             (
              k996)
             (
              r998 (IntKind.wrap .i64 (v986 + (1 : Int))))
          else
            none
        else
          none
      else
        none
    else
      none)
   (
    k997)
def g28v3l0 {α : Type}   (m980 : Nat) (m981 : Nat) (m982 : Nat) (m983 : Nat) (m984 : Nat) (m985 : Nat) (m987 : Nat) (a988 : List Int) (m989 : Nat) (a990 : List Int) (k996 : Option α) (k997 : Option α) : Nat → Int → Option α
  | 0 => fun _ => none
  | m + 1 => fun v986 => g28v3l0b m980 m981 m982 m983 m984 m985 m987 a988 m989 a990 k996 k997 (g28v3l0 m980 m981 m982 m983 m984 m985 m987 a988 m989 a990 k996 k997 m) v986
def g28v3l0M {α : Type} (m : Nat) : Nat → Nat → Nat → Nat → Nat → Nat → Nat → (List Int) → Nat → (List Int) → (Option α) → (Option α) → Int → Option α :=
  fun m980 m981 m982 m983 m984 m985 m987 a988 m989 a990 k996 k997 v986 => g28v3l0 m980 m981 m982 m983 m984 m985 m987 a988 m989 a990 k996 k997 m v986
def g28v3l0D : LoopD := { n := 26, low := [0, 1], sl := [0, 1, 5], bl := [0, 1], tp := [(.vl (.sv (.slc 0 0 1))), (.vl (.sv (.slc 1 0 1))), (.vl (.sv (.int .i64)))], bp := [(false, [(.seqv (.int .i64))]), (false, [(.seqv (.int .i64))])], xs := [(1, [4]), (2, [])] }
def g28v3l0K {α : Type} (L : Nat → Nat → Nat → Nat → Nat → Nat → Nat → (List Int) → Nat → (List Int) → (Option α) → (Option α) → Int → Option α) (ls : List Lf) (k : Ex → St → Option α) : Option α :=
  L (lf ls 0).nat (lf ls 1).nat (lf ls 2).nat (lf ls 3).nat (lf ls 4).nat (lf ls 5).nat (lf ls 7).nat ((lf ls 8).lst (.int .i64)) (lf ls 9).nat ((lf ls 10).lst (.int .i64))
    (k .ret (mkSt 26 [4] [(.vl (.sv (.bool false)))] [0, 1] [(false, [(.seq (.int .i64) (lf ls 7).nat ((lf ls 8).lst (.int .i64)))]), (false, [(.seq (.int .i64) (lf ls 9).nat ((lf ls 10).lst (.int .i64)))])]))
    (k .normal (mkSt 26 [] [] [0, 1] [(false, [(.seq (.int .i64) (lf ls 7).nat ((lf ls 8).lst (.int .i64)))]), (false, [(.seq (.int .i64) (lf ls 9).nat ((lf ls 10).lst (.int .i64)))])]))
    (lf ls 6).int
def g28v3b {α : Type}  (L_g28v3l0 : {α : Type} → Nat → Nat → Nat → Nat → Nat → Nat → Nat → (List Int) → Nat → (List Int) → (Option α) → (Option α) → Int → Option α) (m969 : Nat) (m970 : Nat) (m971 : Nat) (m972 : Nat) (m973 : Nat) (m974 : Nat) (m975 : Nat) (u976 : List Int) (m977 : Nat) (u978 : List Int) (k999 : Bool → Option α) : Option α :=
  cond (((m970 : Nat) : Int) != ((m973 : Nat) : Int))
   (
    k999 false)
   (
    L_g28v3l0 m969 m970 m971 m972 m973 m974 m975 u976 m977 u978
      (
        k999 false)
      (
        k999 true)
      (0 : Int))
def g28v3 {α : Type} (m : Nat) : Nat → Nat → Nat → Nat → Nat → Nat → Nat → (List Int) → Nat → (List Int) → (Bool → Option α) → Option α :=
  g28v3b (g28v3l0M m)
def g28v3tp : List TP := [(.vl (.sv (.slc 0 0 1))), (.vl (.sv (.slc 1 0 1)))]
def g28v3bp : List BP := [(false, [(.seqv (.int .i64))]), (false, [(.seqv (.int .i64))])]
def g28v3K {α : Type} (G : Nat → Nat → Nat → Nat → Nat → Nat → Nat → (List Int) → Nat → (List Int) → (Bool → Option α) → Option α) (ls : List Lf) (k : TV → List (List Seg) → List (List Seg) → Option α) : Option α :=
  G (lf ls 0).nat (lf ls 1).nat (lf ls 2).nat (lf ls 3).nat (lf ls 4).nat (lf ls 5).nat (lf ls 6).nat ((lf ls 7).lst (.int .i64)) (lf ls 8).nat ((lf ls 9).lst (.int .i64))
    (fun y0 => k (.vl (.sv (.bool y0))) [[(.seq (.int .i64) (lf ls 6).nat ((lf ls 7).lst (.int .i64)))], [(.seq (.int .i64) (lf ls 8).nat ((lf ls 9).lst (.int .i64)))]] [])
def g28v3hd  (L_g28v3l0 : {α : Type} → Nat → Nat → Nat → Nat → Nat → Nat → Nat → (List Int) → Nat → (List Int) → (Option α) → (Option α) → Int → Option α) : Hd where
  call := fun f args Bs k => none
  loop := fun id st k => cond (Nat.beq id 0) (loopH g28v3l0D (g28v3l0K L_g28v3l0) st k) (none)
  ro := fun f => []
def g28v3h (m : Nat) : Hd := g28v3hd (g28v3l0M m)
theorem g28v3l0Step  (L_g28v3l0 : {α : Type} → Nat → Nat → Nat → Nat → Nat → Nat → Nat → (List Int) → Nat → (List Int) → (Option α) → (Option α) → Int → Option α) {α : Type} (L : Nat → Nat → Nat → Nat → Nat → Nat → Nat → (List Int) → Nat → (List Int) → (Option α) → (Option α) → Int → Option α) (ls : List Lf) (k : Ex → St → Option α) :
    g28v3l0K (fun m980 m981 m982 m983 m984 m985 m987 a988 m989 a990 k996 k997 v986 => g28v3l0b m980 m981 m982 m983 m984 m985 m987 a988 m989 a990 k996 k997 (L m980 m981 m982 m983 m984 m985 m987 a988 m989 a990 k996 k997) v986) ls k = ev tab (g28v3hd L_g28v3l0) (bodyAt Go.Proofs.Try.f28 0) (atHead g28v3l0D ls) (loopK g28v3l0D 0 (loopH g28v3l0D (g28v3l0K L)) k) := by kernel_rfl
theorem g28v3Main  (L_g28v3l0 : {α : Type} → Nat → Nat → Nat → Nat → Nat → Nat → Nat → (List Int) → Nat → (List Int) → (Option α) → (Option α) → Int → Option α) {α : Type} (ls : List Lf) (k : TV → List (List Seg) → List (List Seg) → Option α) :
    g28v3K (g28v3b L_g28v3l0) ls k = evFun tab (g28v3hd L_g28v3l0) Go.Proofs.Try.f28 (fillT g28v3tp ls).1 (fillB g28v3bp (fillT g28v3tp ls).2).1 k := by kernel_rfl
theorem g28v3Calls (m : Nat) : (g28v3h m).CallsOk Go.Proofs.Try.prog := cok_nil
theorem g28v3l0Ok (m : Nat) (α : Type) (st : St) (k : Ex → St → Option α) (r : α) (h : (g28v3h m).loop 0 st k = some r) :
    ∃ e st', k e st' = some r ∧ CodeS Go.Proofs.Try.prog (.block 0 (.loop (bodyAt Go.Proofs.Try.f28 0))) st e st' :=
  loop_ok (tab := tab) (h := g28v3h m) (F := fun n ls k => g28v3l0K (fun m980 m981 m982 m983 m984 m985 m987 a988 m989 a990 k996 k997 v986 => g28v3l0 m980 m981 m982 m983 m984 m985 m987 a988 m989 a990 k996 k997 n v986) ls k) tabOk (g28v3Calls m) mixed (loopsOk_of _ (fun p hp => by rw [show loopsOf (bodyAt Go.Proofs.Try.f28 0) = [] by kernel_rfl] at hp; cases hp))
    (fun _ _ => rfl) (fun n ls k => g28v3l0Step (g28v3l0M m) (fun m980 m981 m982 m983 m984 m985 m987 a988 m989 a990 k996 k997 => g28v3l0 m980 m981 m982 m983 m984 m985 m987 a988 m989 a990 k996 k997 n) ls k) (n := m) h
theorem g28v3Fn (m : Nat) : FnOk Go.Proofs.Try.prog 28 g28v3tp g28v3bp (fun {α} => g28v3K (g28v3 (α := α) m)) :=
  fn_ok (tab := tab) (h := g28v3h m) (fn := Go.Proofs.Try.f28) (F := fun {α} => g28v3K (g28v3 (α := α) m)) tabOk (g28v3Calls m) mixed (by kernel_rfl) (by kernel_rfl) (fun c hc => by
    rw [bodyOf_some hc]
    exact loopsOk_of _ (fun p hp => by
    rw [show loopsOf (bodyOf Go.Proofs.Try.f28) = [(0, bodyAt Go.Proofs.Try.f28 0)] by kernel_rfl] at hp
    simp only [List.mem_cons, List.not_mem_nil, or_false] at hp
    rcases hp with rfl
    exact g28v3l0Ok m))
    (fun α ls k => g28v3Main (g28v3l0M m) ls k)
theorem g28v3Ok (m : Nat) : RowOk Go.Proofs.Try.prog 28 (fun {α} => rowK g28v3tp g28v3bp (g28v3K (g28v3 (α := α) m))) := row_of (g28v3Fn m)

/-! ### g30v1: laws.markInt64S -/
def g30v1l0b {α : Type}   (m1020 : Nat) (m1021 : Nat) (m1022 : Nat) (m1025 : Nat) (k1031 : Int → (List Int) → Option α) (r1032 : Int → Int → (List Int) → Option α) (v1023 : Int) (v1024 : Int) (a1026 : List Int) : Option α :=
  cond (decide (v1024 < ((m1021 : Nat) : Int)))
   (
    if 0 ≤ v1024 ∧ v1024 < (m1021 : Nat) then
      if (m1020 + v1024.toNat) < m1025 then
        r1032 (IntKind.wrap .i64 (v1023 + (1 : Int))) (IntKind.wrap .i64 (v1024 + (1 : Int))) (List.set a1026 (m1020 + v1024.toNat) v1023)
      else
        none
    else
      none)
   (
    k1031 v1023 a1026)
def g30v1l0 {α : Type}   (m1020 : Nat) (m1021 : Nat) (m1022 : Nat) (m1025 : Nat) (k1031 : Int → (List Int) → Option α) : Nat → Int → Int → (List Int) → Option α
  | 0 => fun _ _ _ => none
  | m + 1 => fun v1023 v1024 a1026 => g30v1l0b m1020 m1021 m1022 m1025 k1031 (g30v1l0 m1020 m1021 m1022 m1025 k1031 m) v1023 v1024 a1026
def g30v1l0M {α : Type} (m : Nat) : Nat → Nat → Nat → Nat → (Int → (List Int) → Option α) → Int → Int → (List Int) → Option α :=
  fun m1020 m1021 m1022 m1025 k1031 v1023 v1024 a1026 => g30v1l0 m1020 m1021 m1022 m1025 k1031 m v1023 v1024 a1026
def g30v1l0D : LoopD := { n := 19, low := [0], sl := [0, 1, 5], bl := [0], tp := [(.vl (.sv (.slc 0 0 1))), (.vl (.sv (.int .i64))), (.vl (.sv (.int .i64)))], bp := [(true, [(.seqv (.int .i64))])], xs := [(2, [1])] }
def g30v1l0K {α : Type} (L : Nat → Nat → Nat → Nat → (Int → (List Int) → Option α) → Int → Int → (List Int) → Option α) (ls : List Lf) (k : Ex → St → Option α) : Option α :=
  L (lf ls 0).nat (lf ls 1).nat (lf ls 2).nat (lf ls 5).nat
    (fun y0 y2 => k .normal (mkSt 19 [1] [(.vl (.sv (.int .i64 y0)))] [0] [(true, [(.seq (.int .i64) (lf ls 5).nat y2)])]))
    (lf ls 3).int (lf ls 4).int ((lf ls 6).lst (.int .i64))
def g30v1b {α : Type}  (L_g30v1l0 : {α : Type} → Nat → Nat → Nat → Nat → (Int → (List Int) → Option α) → Int → Int → (List Int) → Option α) (m1014 : Nat) (m1015 : Nat) (m1016 : Nat) (p1017 : Int) (m1018 : Nat) (u1019 : List Int) (k1035 : Int → (List Int) → Option α) : Option α :=
  L_g30v1l0 m1014 m1015 m1016 m1018
    (fun x1033 l1034 =>
      k1035 x1033 l1034)
    p1017 (0 : Int) u1019
def g30v1 {α : Type} (m : Nat) : Nat → Nat → Nat → Int → Nat → (List Int) → (Int → (List Int) → Option α) → Option α :=
  g30v1b (g30v1l0M m)
def g30v1tp : List TP := [(.vl (.sv (.slc 0 0 1))), (.vl (.sv (.int .i64)))]
def g30v1bp : List BP := [(true, [(.seqv (.int .i64))])]
def g30v1K {α : Type} (G : Nat → Nat → Nat → Int → Nat → (List Int) → (Int → (List Int) → Option α) → Option α) (ls : List Lf) (k : TV → List (List Seg) → List (List Seg) → Option α) : Option α :=
  G (lf ls 0).nat (lf ls 1).nat (lf ls 2).nat (lf ls 3).int (lf ls 4).nat ((lf ls 5).lst (.int .i64))
    (fun y0 y2 => k (.vl (.sv (.int .i64 y0))) [[(.seq (.int .i64) (lf ls 4).nat y2)]] [])
def g30v1hd  (L_g30v1l0 : {α : Type} → Nat → Nat → Nat → Nat → (Int → (List Int) → Option α) → Int → Int → (List Int) → Option α) : Hd where
  call := fun f args Bs k => none
  loop := fun id st k => cond (Nat.beq id 0) (loopH g30v1l0D (g30v1l0K L_g30v1l0) st k) (none)
  ro := fun f => []
def g30v1h (m : Nat) : Hd := g30v1hd (g30v1l0M m)
theorem g30v1l0Step  (L_g30v1l0 : {α : Type} → Nat → Nat → Nat → Nat → (Int → (List Int) → Option α) → Int → Int → (List Int) → Option α) {α : Type} (L : Nat → Nat → Nat → Nat → (Int → (List Int) → Option α) → Int → Int → (List Int) → Option α) (ls : List Lf) (k : Ex → St → Option α) :
    g30v1l0K (fun m1020 m1021 m1022 m1025 k1031 v1023 v1024 a1026 => g30v1l0b m1020 m1021 m1022 m1025 k1031 (L m1020 m1021 m1022 m1025 k1031) v1023 v1024 a1026) ls k = ev tab (g30v1hd L_g30v1l0) (bodyAt Go.Proofs.Try.f30 0) (atHead g30v1l0D ls) (loopK g30v1l0D 0 (loopH g30v1l0D (g30v1l0K L)) k) := by kernel_rfl
theorem g30v1Main  (L_g30v1l0 : {α : Type} → Nat → Nat → Nat → Nat → (Int → (List Int) → Option α) → Int → Int → (List Int) → Option α) {α : Type} (ls : List Lf) (k : TV → List (List Seg) → List (List Seg) → Option α) :
    g30v1K (g30v1b L_g30v1l0) ls k = evFun tab (g30v1hd L_g30v1l0) Go.Proofs.Try.f30 (fillT g30v1tp ls).1 (fillB g30v1bp (fillT g30v1tp ls).2).1 k := by kernel_rfl
theorem g30v1Calls (m : Nat) : (g30v1h m).CallsOk Go.Proofs.Try.prog := cok_nil
theorem g30v1l0Ok (m : Nat) (α : Type) (st : St) (k : Ex → St → Option α) (r : α) (h : (g30v1h m).loop 0 st k = some r) :
    ∃ e st', k e st' = some r ∧ CodeS Go.Proofs.Try.prog (.block 0 (.loop (bodyAt Go.Proofs.Try.f30 0))) st e st' :=
  loop_ok (tab := tab) (h := g30v1h m) (F := fun n ls k => g30v1l0K (fun m1020 m1021 m1022 m1025 k1031 v1023 v1024 a1026 => g30v1l0 m1020 m1021 m1022 m1025 k1031 n v1023 v1024 a1026) ls k) tabOk (g30v1Calls m) mixed (loopsOk_of _ (fun p hp => by rw [show loopsOf (bodyAt Go.Proofs.Try.f30 0) = [] by kernel_rfl] at hp; cases hp))
    (fun _ _ => rfl) (fun n ls k => g30v1l0Step (g30v1l0M m) (fun m1020 m1021 m1022 m1025 k1031 => g30v1l0 m1020 m1021 m1022 m1025 k1031 n) ls k) (n := m) h
theorem g30v1Fn (m : Nat) : FnOk Go.Proofs.Try.prog 30 g30v1tp g30v1bp (fun {α} => g30v1K (g30v1 (α := α) m)) :=
  fn_ok (tab := tab) (h := g30v1h m) (fn := Go.Proofs.Try.f30) (F := fun {α} => g30v1K (g30v1 (α := α) m)) tabOk (g30v1Calls m) mixed (by kernel_rfl) (by kernel_rfl) (fun c hc => by
    rw [bodyOf_some hc]
    exact loopsOk_of _ (fun p hp => by
    rw [show loopsOf (bodyOf Go.Proofs.Try.f30) = [(0, bodyAt Go.Proofs.Try.f30 0)] by kernel_rfl] at hp
    simp only [List.mem_cons, List.not_mem_nil, or_false] at hp
    rcases hp with rfl
    exact g30v1l0Ok m))
    (fun α ls k => g30v1Main (g30v1l0M m) ls k)
theorem g30v1Ok (m : Nat) : RowOk Go.Proofs.Try.prog 30 (fun {α} => rowK g30v1tp g30v1bp (g30v1K (g30v1 (α := α) m))) := row_of (g30v1Fn m)

/-! ### g31v1: laws.heldInt64S -/
def g31v1l0b {α : Type}   (m1046 : Nat) (m1047 : Nat) (m1048 : Nat) (m1051 : Nat) (a1052 : List Int) (k1058 : Option α) (k1059 : Int → Option α) (r1060 : Int → Int → Option α) (v1049 : Int) (v1050 : Int) : Option α :=
  cond (decide (v1050 < ((m1047 : Nat) : Int)))
   (
    if 0 ≤ v1050 ∧ v1050 < (m1047 : Nat) then
      if (m1046 + v1050.toNat) < m1051 then
        cond ((List.getD a1052 (m1046 + v1050.toNat) 0) != v1049)
         (
          k1058)
         (
          r1060 (IntKind.wrap .i64 (v1049 + (1 : Int))) (IntKind.wrap .i64 (v1050 + (1 : Int))))
      else
        none
    else
      none)
   (
    k1059 v1049)
def g31v1l0 {α : Type}   (m1046 : Nat) (m1047 : Nat) (m1048 : Nat) (m1051 : Nat) (a1052 : List Int) (k1058 : Option α) (k1059 : Int → Option α) : Nat → Int → Int → Option α
  | 0 => fun _ _ => none
  | m + 1 => fun v1049 v1050 => g31v1l0b m1046 m1047 m1048 m1051 a1052 k1058 k1059 (g31v1l0 m1046 m1047 m1048 m1051 a1052 k1058 k1059 m) v1049 v1050
def g31v1l0M {α : Type} (m : Nat) : Nat → Nat → Nat → Nat → (List Int) → (Option α) → (Int → Option α) → Int → Int → Option α :=
  fun m1046 m1047 m1048 m1051 a1052 k1058 k1059 v1049 v1050 => g31v1l0 m1046 m1047 m1048 m1051 a1052 k1058 k1059 m v1049 v1050
def g31v1l0D : LoopD := { n := 21, low := [0], sl := [0, 1, 5], bl := [0], tp := [(.vl (.sv (.slc 0 0 1))), (.vl (.sv (.int .i64))), (.vl (.sv (.int .i64)))], bp := [(false, [(.seqv (.int .i64))])], xs := [(1, [4]), (2, [1])] }
def g31v1l0K {α : Type} (L : Nat → Nat → Nat → Nat → (List Int) → (Option α) → (Int → Option α) → Int → Int → Option α) (ls : List Lf) (k : Ex → St → Option α) : Option α :=
  L (lf ls 0).nat (lf ls 1).nat (lf ls 2).nat (lf ls 5).nat ((lf ls 6).lst (.int .i64))
    (k .ret (mkSt 21 [4] [(.vl (.sv (.int .i64 (-1 : Int))))] [0] [(false, [(.seq (.int .i64) (lf ls 5).nat ((lf ls 6).lst (.int .i64)))])]))
    (fun y0 => k .normal (mkSt 21 [1] [(.vl (.sv (.int .i64 y0)))] [0] [(false, [(.seq (.int .i64) (lf ls 5).nat ((lf ls 6).lst (.int .i64)))])]))
    (lf ls 3).int (lf ls 4).int
def g31v1b {α : Type}  (L_g31v1l0 : {α : Type} → Nat → Nat → Nat → Nat → (List Int) → (Option α) → (Int → Option α) → Int → Int → Option α) (m1040 : Nat) (m1041 : Nat) (m1042 : Nat) (p1043 : Int) (m1044 : Nat) (u1045 : List Int) (k1062 : Int → Option α) : Option α :=
  L_g31v1l0 m1040 m1041 m1042 m1044 u1045
    (
      k1062 (-1 : Int))
    (fun x1061 =>
      k1062 x1061)
    p1043 (0 : Int)
def g31v1 {α : Type} (m : Nat) : Nat → Nat → Nat → Int → Nat → (List Int) → (Int → Option α) → Option α :=
  g31v1b (g31v1l0M m)
def g31v1tp : List TP := [(.vl (.sv (.slc 0 0 1))), (.vl (.sv (.int .i64)))]
def g31v1bp : List BP := [(false, [(.seqv (.int .i64))])]
def g31v1K {α : Type} (G : Nat → Nat → Nat → Int → Nat → (List Int) → (Int → Option α) → Option α) (ls : List Lf) (k : TV → List (List Seg) → List (List Seg) → Option α) : Option α :=
  G (lf ls 0).nat (lf ls 1).nat (lf ls 2).nat (lf ls 3).int (lf ls 4).nat ((lf ls 5).lst (.int .i64))
    (fun y0 => k (.vl (.sv (.int .i64 y0))) [[(.seq (.int .i64) (lf ls 4).nat ((lf ls 5).lst (.int .i64)))]] [])
def g31v1hd  (L_g31v1l0 : {α : Type} → Nat → Nat → Nat → Nat → (List Int) → (Option α) → (Int → Option α) → Int → Int → Option α) : Hd where
  call := fun f args Bs k => none
  loop := fun id st k => cond (Nat.beq id 0) (loopH g31v1l0D (g31v1l0K L_g31v1l0) st k) (none)
  ro := fun f => []
def g31v1h (m : Nat) : Hd := g31v1hd (g31v1l0M m)
theorem g31v1l0Step  (L_g31v1l0 : {α : Type} → Nat → Nat → Nat → Nat → (List Int) → (Option α) → (Int → Option α) → Int → Int → Option α) {α : Type} (L : Nat → Nat → Nat → Nat → (List Int) → (Option α) → (Int → Option α) → Int → Int → Option α) (ls : List Lf) (k : Ex → St → Option α) :
    g31v1l0K (fun m1046 m1047 m1048 m1051 a1052 k1058 k1059 v1049 v1050 => g31v1l0b m1046 m1047 m1048 m1051 a1052 k1058 k1059 (L m1046 m1047 m1048 m1051 a1052 k1058 k1059) v1049 v1050) ls k = ev tab (g31v1hd L_g31v1l0) (bodyAt Go.Proofs.Try.f31 0) (atHead g31v1l0D ls) (loopK g31v1l0D 0 (loopH g31v1l0D (g31v1l0K L)) k) := by kernel_rfl
theorem g31v1Main  (L_g31v1l0 : {α : Type} → Nat → Nat → Nat → Nat → (List Int) → (Option α) → (Int → Option α) → Int → Int → Option α) {α : Type} (ls : List Lf) (k : TV → List (List Seg) → List (List Seg) → Option α) :
    g31v1K (g31v1b L_g31v1l0) ls k = evFun tab (g31v1hd L_g31v1l0) Go.Proofs.Try.f31 (fillT g31v1tp ls).1 (fillB g31v1bp (fillT g31v1tp ls).2).1 k := by kernel_rfl
theorem g31v1Calls (m : Nat) : (g31v1h m).CallsOk Go.Proofs.Try.prog := cok_nil
theorem g31v1l0Ok (m : Nat) (α : Type) (st : St) (k : Ex → St → Option α) (r : α) (h : (g31v1h m).loop 0 st k = some r) :
    ∃ e st', k e st' = some r ∧ CodeS Go.Proofs.Try.prog (.block 0 (.loop (bodyAt Go.Proofs.Try.f31 0))) st e st' :=
  loop_ok (tab := tab) (h := g31v1h m) (F := fun n ls k => g31v1l0K (fun m1046 m1047 m1048 m1051 a1052 k1058 k1059 v1049 v1050 => g31v1l0 m1046 m1047 m1048 m1051 a1052 k1058 k1059 n v1049 v1050) ls k) tabOk (g31v1Calls m) mixed (loopsOk_of _ (fun p hp => by rw [show loopsOf (bodyAt Go.Proofs.Try.f31 0) = [] by kernel_rfl] at hp; cases hp))
    (fun _ _ => rfl) (fun n ls k => g31v1l0Step (g31v1l0M m) (fun m1046 m1047 m1048 m1051 a1052 k1058 k1059 => g31v1l0 m1046 m1047 m1048 m1051 a1052 k1058 k1059 n) ls k) (n := m) h
theorem g31v1Fn (m : Nat) : FnOk Go.Proofs.Try.prog 31 g31v1tp g31v1bp (fun {α} => g31v1K (g31v1 (α := α) m)) :=
  fn_ok (tab := tab) (h := g31v1h m) (fn := Go.Proofs.Try.f31) (F := fun {α} => g31v1K (g31v1 (α := α) m)) tabOk (g31v1Calls m) mixed (by kernel_rfl) (by kernel_rfl) (fun c hc => by
    rw [bodyOf_some hc]
    exact loopsOk_of _ (fun p hp => by
    rw [show loopsOf (bodyOf Go.Proofs.Try.f31) = [(0, bodyAt Go.Proofs.Try.f31 0)] by kernel_rfl] at hp
    simp only [List.mem_cons, List.not_mem_nil, or_false] at hp
    rcases hp with rfl
    exact g31v1l0Ok m))
    (fun α ls k => g31v1Main (g31v1l0M m) ls k)
theorem g31v1Ok (m : Nat) : RowOk Go.Proofs.Try.prog 31 (fun {α} => rowK g31v1tp g31v1bp (g31v1K (g31v1 (α := α) m))) := row_of (g31v1Fn m)

/-! ### g9: laws.FnExactShareTerm -/
def g9b {α : Type} (G_g11 : {α : Type} → Nat → Nat → Nat → Int → Nat → (List (List Int)) → (Int → Option α) → Option α) (G_g13 : {α : Type} → Nat → Nat → Nat → Nat → (List (List Int)) → ((List (List Int)) → Option α) → Option α) (G_g35 : {α : Type} → Nat → Nat → Nat → Nat → (List (List Int)) → ((List (List Int)) → (List Int) → Option α) → ((List (List Int)) → (List Int) → Option α) → Option α) (G_g36 : {α : Type} → Nat → Nat → Nat → Nat → (List (List Int)) → (Option α) → ((List (List Int)) → (List Int) → Option α) → Option α) (G_g15 : {α : Type} → (List (List Int)) → (Bool → Option α) → Option α) (G_g28 : {α : Type} → (List Int) → (Bool → Option α) → Option α) (G_g15v1 : {α : Type} → Nat → Nat → Nat → Nat → Nat → Nat → Nat → (List (List Int)) → Nat → (List (List Int)) → (Bool → Option α) → Option α) (G_g29 : {α : Type} → Nat → Nat → Nat → Int → Nat → (List (List Int)) → (Int → (List (List Int)) → Option α) → Option α) (G_g29v1 : {α : Type} → Int → (Option α) → Option α) (G_g30 : {α : Type} → Int → (Option α) → Option α) (G_g34 : {α : Type} → Int → (Option α) → Option α) (G_g31 : {α : Type} → Int → (Option α) → Option α) (G_g15v2 : {α : Type} → (List (List Int)) → (List (List Int)) → (Bool → Option α) → Option α) (G_g28v1 : {α : Type} → Nat → Nat → Nat → Nat → (List Int) → (List Int) → (Bool → Option α) → Option α) (G_g28v2 : {α : Type} → Nat → Nat → Nat → Nat → (List Int) → (Bool → Option α) → Option α) (G_g28v3 : {α : Type} → Nat → Nat → Nat → Nat → Nat → Nat → Nat → (List Int) → Nat → (List Int) → (Bool → Option α) → Option α) (G_g29v2 : {α : Type} → Int → (List (List Int)) → (Int → (List (List Int)) → Option α) → Option α) (G_g30v1 : {α : Type} → Nat → Nat → Nat → Int → Nat → (List Int) → (Int → (List Int) → Option α) → Option α) (G_g34v1 : {α : Type} → Int → (List (List Int)) → (Int → Option α) → Option α) (G_g31v1 : {α : Type} → Nat → Nat → Nat → Int → Nat → (List Int) → (Int → Option α) → Option α)  (m657 : Nat) (m658 : Nat) (m659 : Nat) (m660 : Nat) (u661 : List (List Int)) (k1082 : Bool → Option α) : Option α :=
  G_g11 m657 m658 m659 (1048576 : Int) m660 u661
    (fun x662 =>
      cond (decide (x662 < (0 : Int)))
       (
        k1082 true)
       (
        G_g13 m657 m658 m659 m660 u661
          (fun l664 =>
            G_g35 0 m658 m658 m658 l664
              (fun l760 l761 =>
                G_g13 m657 m658 m659 m660 u661
                  (fun l762 =>
                    G_g36 0 m658 m658 m658 l762
                      (
                        G_g15 l760
                          (fun b866 =>
                            cond (!b866)
                             (
                              k1082 false)
                             (
                              G_g28 l761
                                (fun b876 =>
                                  cond (!b876)
                                   (
                                    k1082 false)
                                   (
                                    G_g13 m657 m658 m659 m660 u661
                                      (fun l878 =>
                                        G_g15v1 0 m658 m658 0 m658 m658 m658 l762 m658 l878
                                          (fun b879 =>
                                            cond (!b879)
                                             (
                                              k1082 false)
                                             (
                                              G_g29 0 m658 m658 (1 : Int) m658 l762
                                                (fun x881 l882 =>
                                                  cond (decide (x881 < (0 : Int)))
                                                   (
                                                    k1082 false)
                                                   (
                                                    G_g15 l760
                                                      (fun b884 =>
                                                        cond (!b884)
                                                         (
                                                          k1082 false)
                                                         (
                                                          G_g28 l761
                                                            (fun b886 =>
                                                              cond (!b886)
                                                               (
                                                                k1082 false)
                                                               (
                                                                G_g29v1 (1 : Int)
                                                                  (
                                                                    G_g30 (1 : Int)
                                                                      (
                                                                        G_g34 (1 : Int)
                                                                          (
                                                                            G_g31 (1 : Int)
                                                                              (
                                                                                G_g13 m657 m658 m659 m660 u661
                                                                                  (fun l902 =>
                                                                                    G_g36 0 m658 m658 m658 l902
                                                                                      (
                                                                                        G_g15 l760
                                                                                          (fun b903 =>
                                                                                            cond (!b903)
                                                                                             (
                                                                                              k1082 false)
                                                                                             (
                                                                                              G_g28 l761
                                                                                                (fun b905 =>
                                                                                                  cond (!b905)
                                                                                                   (
                                                                                                    k1082 false)
                                                                                                   (
                                                                                                    G_g34 (1 : Int)
                                                                                                      (
                                                                                                        G_g31 (1 : Int)
                                                                                                          (
                                                                                                            k1082 true)))))))
                                                                                      (fun l907 l908 =>
                                                                                        G_g15v2 l907 l760
                                                                                          (fun b909 =>
                                                                                            cond (!b909)
                                                                                             (
                                                                                              k1082 false)
                                                                                             (
                                                                                              G_g28v1 0 m658 m658 m658 l908 l761
                                                                                                (fun b934 =>
                                                                                                  cond (!b934)
                                                                                                   (
                                                                                                    k1082 false)
                                                                                                   (
                                                                                                    k1082 false))))))))))))))))))))))))
                      (fun l936 l937 =>
                        G_g15v2 l936 l760
                          (fun b938 =>
                            cond (!b938)
                             (
                              k1082 false)
                             (
                              G_g28v1 0 m658 m658 m658 l937 l761
                                (fun b940 =>
                                  cond (!b940)
                                   (
                                    k1082 false)
                                   (
                                    k1082 false)))))))
              (fun l942 l943 =>
                G_g13 m657 m658 m659 m660 u661
                  (fun l944 =>
                    G_g36 0 m658 m658 m658 l944
                      (
                        G_g15 l942
                          (fun b945 =>
                            cond (!b945)
                             (
                              k1082 false)
                             (
                              G_g28v2 0 m658 m658 m658 l943
                                (fun b963 =>
                                  cond (!b963)
                                   (
                                    k1082 false)
                                   (
                                    k1082 false)))))
                      (fun l965 l966 =>
                        G_g15v2 l965 l942
                          (fun b967 =>
                            cond (!b967)
                             (
                              k1082 false)
                             (
                              G_g28v3 0 m658 m658 0 m658 m658 m658 l966 m658 l943
                                (fun b1000 =>
                                  cond (!b1000)
                                   (
                                    k1082 false)
                                   (
                                    G_g13 m657 m658 m659 m660 u661
                                      (fun l1002 =>
                                        G_g15v1 0 m658 m658 0 m658 m658 m658 l944 m658 l1002
                                          (fun b1003 =>
                                            cond (!b1003)
                                             (
                                              k1082 false)
                                             (
                                              G_g29 0 m658 m658 (1 : Int) m658 l944
                                                (fun x1005 l1006 =>
                                                  cond (decide (x1005 < (0 : Int)))
                                                   (
                                                    k1082 false)
                                                   (
                                                    G_g15v2 l965 l942
                                                      (fun b1008 =>
                                                        cond (!b1008)
                                                         (
                                                          k1082 false)
                                                         (
                                                          G_g28v3 0 m658 m658 0 m658 m658 m658 l966 m658 l943
                                                            (fun b1010 =>
                                                              cond (!b1010)
                                                               (
                                                                k1082 false)
                                                               (
                                                                G_g29v2 (1 : Int) l965
                                                                  (fun x1012 l1013 =>
                                                                    G_g30v1 0 m658 m658 x1012 m658 l966
                                                                      (fun x1036 l1037 =>
                                                                        G_g34v1 (1 : Int) l1013
                                                                          (fun x1038 =>
                                                                            cond (decide (x1038 < (0 : Int)))
                                                                             (
                                                                              k1082 false)
                                                                             (
                                                                              G_g31v1 0 m658 m658 x1038 m658 l1037
                                                                                (fun x1063 =>
                                                                                  cond (decide (x1063 < (0 : Int)))
                                                                                   (
                                                                                    k1082 false)
                                                                                   (
                                                                                    cond (x1063 != x1036)
                                                                                     (
                                                                                      k1082 false)
                                                                                     (
                                                                                      G_g13 m657 m658 m659 m660 u661
                                                                                        (fun l1066 =>
                                                                                          G_g36 0 m658 m658 m658 l1066
                                                                                            (
                                                                                              G_g15 l942
                                                                                                (fun b1067 =>
                                                                                                  cond (!b1067)
                                                                                                   (
                                                                                                    k1082 false)
                                                                                                   (
                                                                                                    G_g28v2 0 m658 m658 m658 l943
                                                                                                      (fun b1069 =>
                                                                                                        cond (!b1069)
                                                                                                         (
                                                                                                          k1082 false)
                                                                                                         (
                                                                                                          k1082 false)))))
                                                                                            (fun l1071 l1072 =>
                                                                                              G_g15v2 l1071 l942
                                                                                                (fun b1073 =>
                                                                                                  cond (!b1073)
                                                                                                   (
                                                                                                    k1082 false)
                                                                                                   (
                                                                                                    G_g28v3 0 m658 m658 0 m658 m658 m658 l1072 m658 l943
                                                                                                      (fun b1075 =>
                                                                                                        cond (!b1075)
                                                                                                         (
                                                                                                          k1082 false)
                                                                                                         (
                                                                                                          G_g34v1 (1 : Int) l1013
                                                                                                            (fun x1077 =>
                                                                                                              cond (decide (x1077 < (0 : Int)))
                                                                                                               (
                                                                                                                k1082 false)
                                                                                                               (
                                                                                                                G_g31v1 0 m658 m658 x1077 m658 l1037
                                                                                                                  (fun x1079 =>
                                                                                                                    cond (decide (x1079 < (0 : Int)))
                                                                                                                     (
                                                                                                                      k1082 false)
                                                                                                                     (
                                                                                                                      cond (x1079 != x1036)
                                                                                                                       (
                                                                                                                        k1082 false)
                                                                                                                       (
                                                                                                                        k1082 true)))))))))))))))))))))))))))))))))))))
def g9 {α : Type} (m : Nat) : Nat → Nat → Nat → Nat → (List (List Int)) → (Bool → Option α) → Option α :=
  g9b (g11 m) (g13 m) (g35 m) (g36 m) (g15 m) (g28 m) (g15v1 m) (g29 m) (g29v1 m) (g30 m) (g34 m) (g31 m) (g15v2 m) (g28v1 m) (g28v2 m) (g28v3 m) (g29v2 m) (g30v1 m) (g34v1 m) (g31v1 m)
def g9tp : List TP := [(.vl (.sv (.sla 0 0 5)))]
def g9bp : List BP := [(false, [(.seqv (.rc [.i8, .i16, .i16, .i64, .i64]))])]
def g9K {α : Type} (G : Nat → Nat → Nat → Nat → (List (List Int)) → (Bool → Option α) → Option α) (ls : List Lf) (k : TV → List (List Seg) → List (List Seg) → Option α) : Option α :=
  G (lf ls 0).nat (lf ls 1).nat (lf ls 2).nat (lf ls 3).nat ((lf ls 4).lst (.rc [.i8, .i16, .i16, .i64, .i64]))
    (fun y0 => k (.vl (.sv (.bool y0))) [[(.seq (.rc [.i8, .i16, .i16, .i64, .i64]) (lf ls 3).nat ((lf ls 4).lst (.rc [.i8, .i16, .i16, .i64, .i64])))]] [])
def g9hd (G_g11 : {α : Type} → Nat → Nat → Nat → Int → Nat → (List (List Int)) → (Int → Option α) → Option α) (G_g13 : {α : Type} → Nat → Nat → Nat → Nat → (List (List Int)) → ((List (List Int)) → Option α) → Option α) (G_g35 : {α : Type} → Nat → Nat → Nat → Nat → (List (List Int)) → ((List (List Int)) → (List Int) → Option α) → ((List (List Int)) → (List Int) → Option α) → Option α) (G_g36 : {α : Type} → Nat → Nat → Nat → Nat → (List (List Int)) → (Option α) → ((List (List Int)) → (List Int) → Option α) → Option α) (G_g15 : {α : Type} → (List (List Int)) → (Bool → Option α) → Option α) (G_g28 : {α : Type} → (List Int) → (Bool → Option α) → Option α) (G_g15v1 : {α : Type} → Nat → Nat → Nat → Nat → Nat → Nat → Nat → (List (List Int)) → Nat → (List (List Int)) → (Bool → Option α) → Option α) (G_g29 : {α : Type} → Nat → Nat → Nat → Int → Nat → (List (List Int)) → (Int → (List (List Int)) → Option α) → Option α) (G_g29v1 : {α : Type} → Int → (Option α) → Option α) (G_g30 : {α : Type} → Int → (Option α) → Option α) (G_g34 : {α : Type} → Int → (Option α) → Option α) (G_g31 : {α : Type} → Int → (Option α) → Option α) (G_g15v2 : {α : Type} → (List (List Int)) → (List (List Int)) → (Bool → Option α) → Option α) (G_g28v1 : {α : Type} → Nat → Nat → Nat → Nat → (List Int) → (List Int) → (Bool → Option α) → Option α) (G_g28v2 : {α : Type} → Nat → Nat → Nat → Nat → (List Int) → (Bool → Option α) → Option α) (G_g28v3 : {α : Type} → Nat → Nat → Nat → Nat → Nat → Nat → Nat → (List Int) → Nat → (List Int) → (Bool → Option α) → Option α) (G_g29v2 : {α : Type} → Int → (List (List Int)) → (Int → (List (List Int)) → Option α) → Option α) (G_g30v1 : {α : Type} → Nat → Nat → Nat → Int → Nat → (List Int) → (Int → (List Int) → Option α) → Option α) (G_g34v1 : {α : Type} → Int → (List (List Int)) → (Int → Option α) → Option α) (G_g31v1 : {α : Type} → Nat → Nat → Nat → Int → Nat → (List Int) → (Int → Option α) → Option α)  : Hd where
  call := fun f args Bs k => cond (Nat.beq f 11) (rowK g11tp g11bp (g11K G_g11) args Bs k) (cond (Nat.beq f 13) (rowK g13tp g13bp (g13K G_g13) args Bs k) (cond (Nat.beq f 35) (rowK g35tp g35bp (g35K G_g35) args Bs k) (cond (Nat.beq f 36) (rowK g36tp g36bp (g36K G_g36) args Bs k) (cond (Nat.beq f 15) (rowE g15tp g15bp (g15K G_g15) (rowE g15v1tp g15v1bp (g15v1K G_g15v1) (rowK g15v2tp g15v2bp (g15v2K G_g15v2))) args Bs k) (cond (Nat.beq f 28) (rowE g28tp g28bp (g28K G_g28) (rowE g28v1tp g28v1bp (g28v1K G_g28v1) (rowE g28v2tp g28v2bp (g28v2K G_g28v2) (rowK g28v3tp g28v3bp (g28v3K G_g28v3)))) args Bs k) (cond (Nat.beq f 29) (rowE g29tp g29bp (g29K G_g29) (rowE g29v1tp g29v1bp (g29v1K G_g29v1) (rowK g29v2tp g29v2bp (g29v2K G_g29v2))) args Bs k) (cond (Nat.beq f 30) (rowE g30tp g30bp (g30K G_g30) (rowK g30v1tp g30v1bp (g30v1K G_g30v1)) args Bs k) (cond (Nat.beq f 34) (rowE g34tp g34bp (g34K G_g34) (rowK g34v1tp g34v1bp (g34v1K G_g34v1)) args Bs k) (cond (Nat.beq f 31) (rowE g31tp g31bp (g31K G_g31) (rowK g31v1tp g31v1bp (g31v1K G_g31v1)) args Bs k) (none))))))))))
  loop := fun id st k => none
  ro := fun f => cond (Nat.beq f 11) [0] (cond (Nat.beq f 13) [0] (cond (Nat.beq f 15) [0, 1] (cond (Nat.beq f 28) [0, 1] (cond (Nat.beq f 31) [0] (cond (Nat.beq f 34) [0] (cond (Nat.beq f 35) [0] (cond (Nat.beq f 36) [0] ([]))))))))
def g9h (m : Nat) : Hd := g9hd (g11 m) (g13 m) (g35 m) (g36 m) (g15 m) (g28 m) (g15v1 m) (g29 m) (g29v1 m) (g30 m) (g34 m) (g31 m) (g15v2 m) (g28v1 m) (g28v2 m) (g28v3 m) (g29v2 m) (g30v1 m) (g34v1 m) (g31v1 m)
theorem g9Main (G_g11 : {α : Type} → Nat → Nat → Nat → Int → Nat → (List (List Int)) → (Int → Option α) → Option α) (G_g13 : {α : Type} → Nat → Nat → Nat → Nat → (List (List Int)) → ((List (List Int)) → Option α) → Option α) (G_g35 : {α : Type} → Nat → Nat → Nat → Nat → (List (List Int)) → ((List (List Int)) → (List Int) → Option α) → ((List (List Int)) → (List Int) → Option α) → Option α) (G_g36 : {α : Type} → Nat → Nat → Nat → Nat → (List (List Int)) → (Option α) → ((List (List Int)) → (List Int) → Option α) → Option α) (G_g15 : {α : Type} → (List (List Int)) → (Bool → Option α) → Option α) (G_g28 : {α : Type} → (List Int) → (Bool → Option α) → Option α) (G_g15v1 : {α : Type} → Nat → Nat → Nat → Nat → Nat → Nat → Nat → (List (List Int)) → Nat → (List (List Int)) → (Bool → Option α) → Option α) (G_g29 : {α : Type} → Nat → Nat → Nat → Int → Nat → (List (List Int)) → (Int → (List (List Int)) → Option α) → Option α) (G_g29v1 : {α : Type} → Int → (Option α) → Option α) (G_g30 : {α : Type} → Int → (Option α) → Option α) (G_g34 : {α : Type} → Int → (Option α) → Option α) (G_g31 : {α : Type} → Int → (Option α) → Option α) (G_g15v2 : {α : Type} → (List (List Int)) → (List (List Int)) → (Bool → Option α) → Option α) (G_g28v1 : {α : Type} → Nat → Nat → Nat → Nat → (List Int) → (List Int) → (Bool → Option α) → Option α) (G_g28v2 : {α : Type} → Nat → Nat → Nat → Nat → (List Int) → (Bool → Option α) → Option α) (G_g28v3 : {α : Type} → Nat → Nat → Nat → Nat → Nat → Nat → Nat → (List Int) → Nat → (List Int) → (Bool → Option α) → Option α) (G_g29v2 : {α : Type} → Int → (List (List Int)) → (Int → (List (List Int)) → Option α) → Option α) (G_g30v1 : {α : Type} → Nat → Nat → Nat → Int → Nat → (List Int) → (Int → (List Int) → Option α) → Option α) (G_g34v1 : {α : Type} → Int → (List (List Int)) → (Int → Option α) → Option α) (G_g31v1 : {α : Type} → Nat → Nat → Nat → Int → Nat → (List Int) → (Int → Option α) → Option α)  {α : Type} (ls : List Lf) (k : TV → List (List Seg) → List (List Seg) → Option α) :
    g9K (g9b G_g11 G_g13 G_g35 G_g36 G_g15 G_g28 G_g15v1 G_g29 G_g29v1 G_g30 G_g34 G_g31 G_g15v2 G_g28v1 G_g28v2 G_g28v3 G_g29v2 G_g30v1 G_g34v1 G_g31v1) ls k = evFun tab (g9hd G_g11 G_g13 G_g35 G_g36 G_g15 G_g28 G_g15v1 G_g29 G_g29v1 G_g30 G_g34 G_g31 G_g15v2 G_g28v1 G_g28v2 G_g28v3 G_g29v2 G_g30v1 G_g34v1 G_g31v1) Go.Proofs.Try.f9 (fillT g9tp ls).1 (fillB g9bp (fillT g9tp ls).2).1 k := by kernel_rfl
theorem g9Calls (m : Nat) : (g9h m).CallsOk Go.Proofs.Try.prog := (cok_cons (g11Ok m) (cok_cons (g13Ok m) (cok_cons (g35Ok m) (cok_cons (g36Ok m) (cok_cons (row_else (g15Ok m) (row_else (g15v1Ok m) (g15v2Ok m))) (cok_cons (row_else (g28Ok m) (row_else (g28v1Ok m) (row_else (g28v2Ok m) (g28v3Ok m)))) (cok_cons (row_else (g29Ok m) (row_else (g29v1Ok m) (g29v2Ok m))) (cok_cons (row_else (g30Ok m) (g30v1Ok m)) (cok_cons (row_else (g34Ok m) (g34v1Ok m)) (cok_cons (row_else (g31Ok m) (g31v1Ok m)) cok_nil))))))))))
theorem g9Fn (m : Nat) : FnOk Go.Proofs.Try.prog 9 g9tp g9bp (fun {α} => g9K (g9 (α := α) m)) :=
  fn_ok (tab := tab) (h := g9h m) (fn := Go.Proofs.Try.f9) (F := fun {α} => g9K (g9 (α := α) m)) tabOk (g9Calls m) mixed (by kernel_rfl) (by kernel_rfl) (fun c hc => by
    rw [bodyOf_some hc]
    exact loopsOk_of _ (fun p hp => by rw [show loopsOf (bodyOf Go.Proofs.Try.f9) = [] by kernel_rfl] at hp; cases hp))
    (fun α ls k => g9Main (g11 m) (g13 m) (g35 m) (g36 m) (g15 m) (g28 m) (g15v1 m) (g29 m) (g29v1 m) (g30 m) (g34 m) (g31 m) (g15v2 m) (g28v1 m) (g28v2 m) (g28v3 m) (g29v2 m) (g30v1 m) (g34v1 m) (g31v1 m) ls k)
theorem g9Ok (m : Nat) : RowOk Go.Proofs.Try.prog 9 (fun {α} => rowK g9tp g9bp (g9K (g9 (α := α) m))) := row_of (g9Fn m)

/-! ### g94: spec.l02Index -/
def g94b {α : Type} (G_g81 : {α : Type} → Int → Int → Int → (Bool → Option α) → Option α)  (m1107 : Nat) (m1108 : Nat) (m1109 : Nat) (p1110 : Int) (m1111 : Nat) (u1112 : List (List Int)) (k1115 : Bool → Option α) : Option α :=
  G_g81 p1110 (0 : Int) (IntKind.wrap .i64 (((m1108 : Nat) : Int) - (1 : Int)))
    (fun b1114 =>
      k1115 b1114)
def g94 {α : Type} (m : Nat) : Nat → Nat → Nat → Int → Nat → (List (List Int)) → (Bool → Option α) → Option α :=
  g94b (g81 m)
def g94tp : List TP := [(.vl (.sv (.slc 0 0 5))), (.vl (.sv (.int .i64)))]
def g94bp : List BP := [(false, [(.seqv (.rc [.i8, .i16, .i16, .i64, .i64]))])]
def g94K {α : Type} (G : Nat → Nat → Nat → Int → Nat → (List (List Int)) → (Bool → Option α) → Option α) (ls : List Lf) (k : TV → List (List Seg) → List (List Seg) → Option α) : Option α :=
  G (lf ls 0).nat (lf ls 1).nat (lf ls 2).nat (lf ls 3).int (lf ls 4).nat ((lf ls 5).lst (.rc [.i8, .i16, .i16, .i64, .i64]))
    (fun y0 => k (.vl (.sv (.bool y0))) [[(.seq (.rc [.i8, .i16, .i16, .i64, .i64]) (lf ls 4).nat ((lf ls 5).lst (.rc [.i8, .i16, .i16, .i64, .i64])))]] [])
def g94hd (G_g81 : {α : Type} → Int → Int → Int → (Bool → Option α) → Option α)  : Hd where
  call := fun f args Bs k => cond (Nat.beq f 81) (rowK g81tp g81bp (g81K G_g81) args Bs k) (none)
  loop := fun id st k => none
  ro := fun f => []
def g94h (m : Nat) : Hd := g94hd (g81 m)
theorem g94Main (G_g81 : {α : Type} → Int → Int → Int → (Bool → Option α) → Option α)  {α : Type} (ls : List Lf) (k : TV → List (List Seg) → List (List Seg) → Option α) :
    g94K (g94b G_g81) ls k = evFun tab (g94hd G_g81) Go.Proofs.Try.f94 (fillT g94tp ls).1 (fillB g94bp (fillT g94tp ls).2).1 k := by kernel_rfl
theorem g94Calls (m : Nat) : (g94h m).CallsOk Go.Proofs.Try.prog := (cok_cons (g81Ok m) cok_nil)
theorem g94Fn (m : Nat) : FnOk Go.Proofs.Try.prog 94 g94tp g94bp (fun {α} => g94K (g94 (α := α) m)) :=
  fn_ok (tab := tab) (h := g94h m) (fn := Go.Proofs.Try.f94) (F := fun {α} => g94K (g94 (α := α) m)) tabOk (g94Calls m) mixed (by kernel_rfl) (by kernel_rfl) (fun c hc => by
    rw [bodyOf_some hc]
    exact loopsOk_of _ (fun p hp => by rw [show loopsOf (bodyOf Go.Proofs.Try.f94) = [] by kernel_rfl] at hp; cases hp))
    (fun α ls k => g94Main (g81 m) ls k)
theorem g94Ok (m : Nat) : RowOk Go.Proofs.Try.prog 94 (fun {α} => rowK g94tp g94bp (g94K (g94 (α := α) m))) := row_of (g94Fn m)

/-! ### g58: spec.l02Places -/
def g58b {α : Type} (G_g81 : {α : Type} → Int → Int → Int → (Bool → Option α) → Option α)  (p1118 : Int) (k1120 : Bool → Option α) : Option α :=
  G_g81 p1118 (0 : Int) (64 : Int)
    (fun b1119 =>
      k1120 b1119)
def g58 {α : Type} (m : Nat) : Int → (Bool → Option α) → Option α :=
  g58b (g81 m)
def g58tp : List TP := [(.vl (.sv (.int .i64)))]
def g58bp : List BP := []
def g58K {α : Type} (G : Int → (Bool → Option α) → Option α) (ls : List Lf) (k : TV → List (List Seg) → List (List Seg) → Option α) : Option α :=
  G (lf ls 0).int
    (fun y0 => k (.vl (.sv (.bool y0))) [] [])
def g58hd (G_g81 : {α : Type} → Int → Int → Int → (Bool → Option α) → Option α)  : Hd where
  call := fun f args Bs k => cond (Nat.beq f 81) (rowK g81tp g81bp (g81K G_g81) args Bs k) (none)
  loop := fun id st k => none
  ro := fun f => []
def g58h (m : Nat) : Hd := g58hd (g81 m)
theorem g58Main (G_g81 : {α : Type} → Int → Int → Int → (Bool → Option α) → Option α)  {α : Type} (ls : List Lf) (k : TV → List (List Seg) → List (List Seg) → Option α) :
    g58K (g58b G_g81) ls k = evFun tab (g58hd G_g81) Go.Proofs.Try.f58 (fillT g58tp ls).1 (fillB g58bp (fillT g58tp ls).2).1 k := by kernel_rfl
theorem g58Calls (m : Nat) : (g58h m).CallsOk Go.Proofs.Try.prog := (cok_cons (g81Ok m) cok_nil)
theorem g58Fn (m : Nat) : FnOk Go.Proofs.Try.prog 58 g58tp g58bp (fun {α} => g58K (g58 (α := α) m)) :=
  fn_ok (tab := tab) (h := g58h m) (fn := Go.Proofs.Try.f58) (F := fun {α} => g58K (g58 (α := α) m)) tabOk (g58Calls m) mixed (by kernel_rfl) (by kernel_rfl) (fun c hc => by
    rw [bodyOf_some hc]
    exact loopsOk_of _ (fun p hp => by rw [show loopsOf (bodyOf Go.Proofs.Try.f58) = [] by kernel_rfl] at hp; cases hp))
    (fun α ls k => g58Main (g81 m) ls k)
theorem g58Ok (m : Nat) : RowOk Go.Proofs.Try.prog 58 (fun {α} => rowK g58tp g58bp (g58K (g58 (α := α) m))) := row_of (g58Fn m)

/-! ### g71: spec.l02Asked -/
def g71b {α : Type} (G_g42 : {α : Type} → Nat → Nat → Nat → Nat → (List (List Int)) → (Bool → Option α) → Option α) (G_g94 : {α : Type} → Nat → Nat → Nat → Int → Nat → (List (List Int)) → (Bool → Option α) → Option α) (G_g58 : {α : Type} → Int → (Bool → Option α) → Option α)  (m1098 : Nat) (m1099 : Nat) (m1100 : Nat) (p1101 : Int) (p1102 : Int) (m1103 : Nat) (u1104 : List (List Int)) (k1123 : Int → Option α) : Option α :=
  G_g42 m1098 m1099 m1100 m1103 u1104
    (fun b1105 =>
      cond (!b1105)
       (
        k1123 (1 : Int))
       (
        G_g94 m1098 m1099 m1100 p1101 m1103 u1104
          (fun b1116 =>
            cond (!b1116)
             (
              k1123 (2 : Int))
             (
              G_g58 p1102
                (fun b1121 =>
                  cond (!b1121)
                   (
                    k1123 (2 : Int))
                   (
                    k1123 (0 : Int)))))))
def g71 {α : Type} (m : Nat) : Nat → Nat → Nat → Int → Int → Nat → (List (List Int)) → (Int → Option α) → Option α :=
  g71b (g42 m) (g94 m) (g58 m)
def g71tp : List TP := [(.vl (.sv (.slc 0 0 5))), (.vl (.sv (.int .i64))), (.vl (.sv (.int .i64)))]
def g71bp : List BP := [(false, [(.seqv (.rc [.i8, .i16, .i16, .i64, .i64]))])]
def g71K {α : Type} (G : Nat → Nat → Nat → Int → Int → Nat → (List (List Int)) → (Int → Option α) → Option α) (ls : List Lf) (k : TV → List (List Seg) → List (List Seg) → Option α) : Option α :=
  G (lf ls 0).nat (lf ls 1).nat (lf ls 2).nat (lf ls 3).int (lf ls 4).int (lf ls 5).nat ((lf ls 6).lst (.rc [.i8, .i16, .i16, .i64, .i64]))
    (fun y0 => k (.vl (.sv (.int .i64 y0))) [[(.seq (.rc [.i8, .i16, .i16, .i64, .i64]) (lf ls 5).nat ((lf ls 6).lst (.rc [.i8, .i16, .i16, .i64, .i64])))]] [])
def g71hd (G_g42 : {α : Type} → Nat → Nat → Nat → Nat → (List (List Int)) → (Bool → Option α) → Option α) (G_g94 : {α : Type} → Nat → Nat → Nat → Int → Nat → (List (List Int)) → (Bool → Option α) → Option α) (G_g58 : {α : Type} → Int → (Bool → Option α) → Option α)  : Hd where
  call := fun f args Bs k => cond (Nat.beq f 42) (rowK g42tp g42bp (g42K G_g42) args Bs k) (cond (Nat.beq f 94) (rowK g94tp g94bp (g94K G_g94) args Bs k) (cond (Nat.beq f 58) (rowK g58tp g58bp (g58K G_g58) args Bs k) (none)))
  loop := fun id st k => none
  ro := fun f => cond (Nat.beq f 42) [0] (cond (Nat.beq f 94) [0] ([]))
def g71h (m : Nat) : Hd := g71hd (g42 m) (g94 m) (g58 m)
theorem g71Main (G_g42 : {α : Type} → Nat → Nat → Nat → Nat → (List (List Int)) → (Bool → Option α) → Option α) (G_g94 : {α : Type} → Nat → Nat → Nat → Int → Nat → (List (List Int)) → (Bool → Option α) → Option α) (G_g58 : {α : Type} → Int → (Bool → Option α) → Option α)  {α : Type} (ls : List Lf) (k : TV → List (List Seg) → List (List Seg) → Option α) :
    g71K (g71b G_g42 G_g94 G_g58) ls k = evFun tab (g71hd G_g42 G_g94 G_g58) Go.Proofs.Try.f71 (fillT g71tp ls).1 (fillB g71bp (fillT g71tp ls).2).1 k := by kernel_rfl
theorem g71Calls (m : Nat) : (g71h m).CallsOk Go.Proofs.Try.prog := (cok_cons (g42Ok m) (cok_cons (g94Ok m) (cok_cons (g58Ok m) cok_nil)))
theorem g71Fn (m : Nat) : FnOk Go.Proofs.Try.prog 71 g71tp g71bp (fun {α} => g71K (g71 (α := α) m)) :=
  fn_ok (tab := tab) (h := g71h m) (fn := Go.Proofs.Try.f71) (F := fun {α} => g71K (g71 (α := α) m)) tabOk (g71Calls m) mixed (by kernel_rfl) (by kernel_rfl) (fun c hc => by
    rw [bodyOf_some hc]
    exact loopsOk_of _ (fun p hp => by rw [show loopsOf (bodyOf Go.Proofs.Try.f71) = [] by kernel_rfl] at hp; cases hp))
    (fun α ls k => g71Main (g42 m) (g94 m) (g58 m) ls k)
theorem g71Ok (m : Nat) : RowOk Go.Proofs.Try.prog 71 (fun {α} => rowK g71tp g71bp (g71K (g71 (α := α) m))) := row_of (g71Fn m)

/-! ### g72: spec.l02Reach -/
def g72l0b {α : Type} (G_g95 : {α : Type} → Int → (Bool → Option α) → Option α) (G_g96 : {α : Type} → Int → (Bool → Option α) → Option α)  (m1134 : Nat) (m1135 : Nat) (m1136 : Nat) (m1137 : Nat) (m1138 : Nat) (m1139 : Nat) (m1141 : Nat) (a1142 : List (List Int)) (m1143 : Nat) (k1177 : (List Int) → Option α) (r1178 : Int → (List Bool) → (List Int) → Option α) (v1140 : Int) (a1144 : List Bool) (a1145 : List Int) : Option α :=
  cond (decide (v1140 ≥ (0 : Int)))
   (
    if 0 ≤ v1140 ∧ v1140 < (m1138 : Nat) then
      if (m1137 + v1140.toNat) < m1143 then
        cond (!(List.getD a1144 (m1137 + v1140.toNat) false))
         (
          r1178 (IntKind.wrap .i64 (v1140 - (1 : Int))) a1144 a1145)
         (
          if 1 + a1145.length ≤ 67108864 then
            let l1150 : List Int := [v1140] ++ a1145
            if 0 ≤ v1140 ∧ v1140 < (m1135 : Nat) then
              if (m1134 + v1140.toNat) < m1141 then
                G_g95 ((List.getD a1142 (m1134 + v1140.toNat) []).headD 0)
                  (fun b1152 =>
                    cond b1152
                     (
                      if 0 ≤ v1140 ∧ v1140 < (m1135 : Nat) then
                        if (m1134 + v1140.toNat) < m1141 then
                          let x1153 : Int := ((List.getD a1142 (m1134 + v1140.toNat) []).tail).headD 0
                          if 0 ≤ x1153 ∧ x1153 < (m1138 : Nat) then
                            if (m1137 + x1153.toNat) < m1143 then
                              let l1154 : List Bool := List.set a1144 (m1137 + x1153.toNat) true
                              if 0 ≤ v1140 ∧ v1140 < (m1135 : Nat) then
                                if (m1134 + v1140.toNat) < m1141 then
                                  G_g96 ((List.getD a1142 (m1134 + v1140.toNat) []).headD 0)
                                    (fun b1156 =>
                                      cond b1156
                                       (
                                        if 0 ≤ v1140 ∧ v1140 < (m1135 : Nat) then
                                          if (m1134 + v1140.toNat) < m1141 then
                                            let x1157 : Int := ((List.getD a1142 (m1134 + v1140.toNat) []).tail.tail).headD 0
                                            if 0 ≤ x1157 ∧ x1157 < (m1138 : Nat) then
                                              if (m1137 + x1157.toNat) < m1143 then
                                                r1178 (IntKind.wrap .i64 (v1140 - (1 : Int))) (List.set l1154 (m1137 + x1157.toNat) true) l1150
                                              else
                                                none
                                            else
                                              none
                                          else
                                            none
                                        else
                                          none)
                                       (
                                        r1178 (IntKind.wrap .i64 (v1140 - (1 : Int))) l1154 l1150))
                                else
                                  none
                              else
                                none
                            else
                              none
                          else
                            none
                        else
                          none
                      else
                        none)
                     (
                      if 0 ≤ v1140 ∧ v1140 < (m1135 : Nat) then
                        if (m1134 + v1140.toNat) < m1141 then
                          G_g96 ((List.getD a1142 (m1134 + v1140.toNat) []).headD 0)
                            (fun b1162 =>
                              cond b1162
                               (
                                if 0 ≤ v1140 ∧ v1140 < (m1135 : Nat) then
                                  if (m1134 + v1140.toNat) < m1141 then
                                    let x1163 : Int := ((List.getD a1142 (m1134 + v1140.toNat) []).tail).headD 0
                                    if 0 ≤ x1163 ∧ x1163 < (m1138 : Nat) then
                                      if (m1137 + x1163.toNat) < m1143 then
                                        let l1164 : List Bool := List.set a1144 (m1137 + x1163.toNat) true
                                        if 0 ≤ v1140 ∧ v1140 < (m1135 : Nat) then
                                          if (m1134 + v1140.toNat) < m1141 then
                                            G_g96 ((List.getD a1142 (m1134 + v1140.toNat) []).headD 0)
                                              (fun b1166 =>
                                                cond b1166
                                                 (
                                                  if 0 ≤ v1140 ∧ v1140 < (m1135 : Nat) then
                                                    if (m1134 + v1140.toNat) < m1141 then
                                                      let x1167 : Int := ((List.getD a1142 (m1134 + v1140.toNat) []).tail.tail).headD 0
                                                      if 0 ≤ x1167 ∧ x1167 < (m1138 : Nat) then
                                                        if (m1137 + x1167.toNat) < m1143 then
                                                          r1178 (IntKind.wrap .i64 (v1140 - (1 : Int))) (List.set l1164 (m1137 + x1167.toNat) true) l1150
                                                        else
                                                          none
                                                      else
                                                        none
                                                    else
                                                      none
                                                  else
                                                    none)
                                                 (
                                                  r1178 (IntKind.wrap .i64 (v1140 - (1 : Int))) l1164 l1150))
                                          else
                                            none
                                        else
                                          none
                                      else
                                        none
                                    else
                                      none
                                  else
                                    none
                                else
                                  none)
                               (
                                if 0 ≤ v1140 ∧ v1140 < (m1135 : Nat) then
                                  if (m1134 + v1140.toNat) < m1141 then
                                    G_g96 ((List.getD a1142 (m1134 + v1140.toNat) []).headD 0)
                                      (fun b1172 =>
                                        cond b1172
                                         (
                                          if 0 ≤ v1140 ∧ v1140 < (m1135 : Nat) then
                                            if (m1134 + v1140.toNat) < m1141 then
                                              let x1173 : Int := ((List.getD a1142 (m1134 + v1140.toNat) []).tail.tail).headD 0
                                              if 0 ≤ x1173 ∧ x1173 < (m1138 : Nat) then
                                                if (m1137 + x1173.toNat) < m1143 then
                                                  r1178 (IntKind.wrap .i64 (v1140 - (1 : Int))) (List.set a1144 (m1137 + x1173.toNat) true) l1150
                                                else
                                                  none
                                              else
                                                none
                                            else
                                              none
                                          else
                                            none)
                                         (
                                          r1178 (IntKind.wrap .i64 (v1140 - (1 : Int))) a1144 l1150))
                                  else
                                    none
                                else
                                  none))
                        else
                          none
                      else
                        none))
              else
                none
            else
              none
          else
            none)
      else
        none
    else
      none)
   (
    k1177 a1145)
def g72l0 {α : Type} (G_g95 : {α : Type} → Int → (Bool → Option α) → Option α) (G_g96 : {α : Type} → Int → (Bool → Option α) → Option α)  (m1134 : Nat) (m1135 : Nat) (m1136 : Nat) (m1137 : Nat) (m1138 : Nat) (m1139 : Nat) (m1141 : Nat) (a1142 : List (List Int)) (m1143 : Nat) (k1177 : (List Int) → Option α) : Nat → Int → (List Bool) → (List Int) → Option α
  | 0 => fun _ _ _ => none
  | m + 1 => fun v1140 a1144 a1145 => g72l0b G_g95 G_g96 m1134 m1135 m1136 m1137 m1138 m1139 m1141 a1142 m1143 k1177 (g72l0 G_g95 G_g96 m1134 m1135 m1136 m1137 m1138 m1139 m1141 a1142 m1143 k1177 m) v1140 a1144 a1145
def g72l0M {α : Type} (m : Nat) : Nat → Nat → Nat → Nat → Nat → Nat → Nat → (List (List Int)) → Nat → ((List Int) → Option α) → Int → (List Bool) → (List Int) → Option α :=
  fun m1134 m1135 m1136 m1137 m1138 m1139 m1141 a1142 m1143 k1177 v1140 a1144 a1145 => g72l0 (g95 m) (g96 m) m1134 m1135 m1136 m1137 m1138 m1139 m1141 a1142 m1143 k1177 m v1140 a1144 a1145
def g72l0D : LoopD := { n := 64, low := [0], sl := [0, 5, 6, 7], bl := [0, 1000001, 1000002], tp := [(.vl (.sv (.slc 0 0 5))), (.vl (.sv (.slc 1000001 0 1))), (.vl (.sv (.gsl 1000002 1))), (.vl (.sv (.int .i64)))], bp := [(false, [(.seqv (.rc [.i8, .i16, .i16, .i64, .i64]))]), (true, [(.seqv .bool)]), (true, [(.gro (.int .i64))])], xs := [(2, [6])] }
def g72l0K {α : Type} (L : Nat → Nat → Nat → Nat → Nat → Nat → Nat → (List (List Int)) → Nat → ((List Int) → Option α) → Int → (List Bool) → (List Int) → Option α) (ls : List Lf) (k : Ex → St → Option α) : Option α :=
  L (lf ls 0).nat (lf ls 1).nat (lf ls 2).nat (lf ls 3).nat (lf ls 4).nat (lf ls 5).nat (lf ls 7).nat ((lf ls 8).lst (.rc [.i8, .i16, .i16, .i64, .i64])) (lf ls 9).nat
    (fun y2 => k .normal (mkSt 64 [6] [(.vl (.sv (.gsl 1000001 1)))] [0, 1000001] [(false, [(.seq (.rc [.i8, .i16, .i16, .i64, .i64]) (lf ls 7).nat ((lf ls 8).lst (.rc [.i8, .i16, .i16, .i64, .i64])))]), (true, [(.gro (.int .i64) y2)])]))
    (lf ls 6).int ((lf ls 10).lst .bool) ((lf ls 11).lst (.int .i64))
def g72b {α : Type} (G_g95 : {α : Type} → Int → (Bool → Option α) → Option α) (G_g96 : {α : Type} → Int → (Bool → Option α) → Option α) (L_g72l0 : {α : Type} → Nat → Nat → Nat → Nat → Nat → Nat → Nat → (List (List Int)) → Nat → ((List Int) → Option α) → Int → (List Bool) → (List Int) → Option α) (m1126 : Nat) (m1127 : Nat) (m1128 : Nat) (p1129 : Int) (m1130 : Nat) (u1131 : List (List Int)) (k1180 : (List Int) → Option α) : Option α :=
  if ((m1127 : Nat) : Int) = ((m1127 : Nat) : Int) ∧ 0 ≤ ((m1127 : Nat) : Int) ∧ ((m1127 : Nat) : Int) ≤ 1048576 then
    if 0 ≤ p1129 ∧ p1129 < (m1127 : Nat) then
      if (0 + p1129.toNat) < m1127 then
        L_g72l0 m1126 m1127 m1128 0 m1127 m1127 m1130 u1131 m1127
          (fun l1179 =>
            k1180 l1179)
          p1129 (List.set (List.replicate m1127 false) (0 + p1129.toNat) true) []
      else
        none
    else
      none
  else
    none
def g72 {α : Type} (m : Nat) : Nat → Nat → Nat → Int → Nat → (List (List Int)) → ((List Int) → Option α) → Option α :=
  g72b (g95 m) (g96 m) (g72l0M m)
def g72tp : List TP := [(.vl (.sv (.slc 0 0 5))), (.vl (.sv (.int .i64)))]
def g72bp : List BP := [(false, [(.seqv (.rc [.i8, .i16, .i16, .i64, .i64]))])]
def g72K {α : Type} (G : Nat → Nat → Nat → Int → Nat → (List (List Int)) → ((List Int) → Option α) → Option α) (ls : List Lf) (k : TV → List (List Seg) → List (List Seg) → Option α) : Option α :=
  G (lf ls 0).nat (lf ls 1).nat (lf ls 2).nat (lf ls 3).int (lf ls 4).nat ((lf ls 5).lst (.rc [.i8, .i16, .i16, .i64, .i64]))
    (fun y2 => k (.vl (.sv (.gsl 1 1))) [[(.seq (.rc [.i8, .i16, .i16, .i64, .i64]) (lf ls 4).nat ((lf ls 5).lst (.rc [.i8, .i16, .i16, .i64, .i64])))]] [[(.gro (.int .i64) y2)]])
def g72hd (G_g95 : {α : Type} → Int → (Bool → Option α) → Option α) (G_g96 : {α : Type} → Int → (Bool → Option α) → Option α) (L_g72l0 : {α : Type} → Nat → Nat → Nat → Nat → Nat → Nat → Nat → (List (List Int)) → Nat → ((List Int) → Option α) → Int → (List Bool) → (List Int) → Option α) : Hd where
  call := fun f args Bs k => cond (Nat.beq f 95) (rowK g95tp g95bp (g95K G_g95) args Bs k) (cond (Nat.beq f 96) (rowK g96tp g96bp (g96K G_g96) args Bs k) (none))
  loop := fun id st k => cond (Nat.beq id 0) (loopH g72l0D (g72l0K L_g72l0) st k) (none)
  ro := fun f => []
def g72h (m : Nat) : Hd := g72hd (g95 m) (g96 m) (g72l0M m)
theorem g72l0Step (G_g95 : {α : Type} → Int → (Bool → Option α) → Option α) (G_g96 : {α : Type} → Int → (Bool → Option α) → Option α) (L_g72l0 : {α : Type} → Nat → Nat → Nat → Nat → Nat → Nat → Nat → (List (List Int)) → Nat → ((List Int) → Option α) → Int → (List Bool) → (List Int) → Option α) {α : Type} (L : Nat → Nat → Nat → Nat → Nat → Nat → Nat → (List (List Int)) → Nat → ((List Int) → Option α) → Int → (List Bool) → (List Int) → Option α) (ls : List Lf) (k : Ex → St → Option α) :
    g72l0K (fun m1134 m1135 m1136 m1137 m1138 m1139 m1141 a1142 m1143 k1177 v1140 a1144 a1145 => g72l0b G_g95 G_g96 m1134 m1135 m1136 m1137 m1138 m1139 m1141 a1142 m1143 k1177 (L m1134 m1135 m1136 m1137 m1138 m1139 m1141 a1142 m1143 k1177) v1140 a1144 a1145) ls k = ev tab (g72hd G_g95 G_g96 L_g72l0) (bodyAt Go.Proofs.Try.f72 0) (atHead g72l0D ls) (loopK g72l0D 0 (loopH g72l0D (g72l0K L)) k) := by kernel_rfl
theorem g72Main (G_g95 : {α : Type} → Int → (Bool → Option α) → Option α) (G_g96 : {α : Type} → Int → (Bool → Option α) → Option α) (L_g72l0 : {α : Type} → Nat → Nat → Nat → Nat → Nat → Nat → Nat → (List (List Int)) → Nat → ((List Int) → Option α) → Int → (List Bool) → (List Int) → Option α) {α : Type} (ls : List Lf) (k : TV → List (List Seg) → List (List Seg) → Option α) :
    g72K (g72b G_g95 G_g96 L_g72l0) ls k = evFun tab (g72hd G_g95 G_g96 L_g72l0) Go.Proofs.Try.f72 (fillT g72tp ls).1 (fillB g72bp (fillT g72tp ls).2).1 k := by kernel_rfl
theorem g72Calls (m : Nat) : (g72h m).CallsOk Go.Proofs.Try.prog := (cok_cons (g95Ok m) (cok_cons (g96Ok m) cok_nil))
theorem g72l0Ok (m : Nat) (α : Type) (st : St) (k : Ex → St → Option α) (r : α) (h : (g72h m).loop 0 st k = some r) :
    ∃ e st', k e st' = some r ∧ CodeS Go.Proofs.Try.prog (.block 0 (.loop (bodyAt Go.Proofs.Try.f72 0))) st e st' :=
  loop_ok (tab := tab) (h := g72h m) (F := fun n ls k => g72l0K (fun m1134 m1135 m1136 m1137 m1138 m1139 m1141 a1142 m1143 k1177 v1140 a1144 a1145 => g72l0 (g95 m) (g96 m) m1134 m1135 m1136 m1137 m1138 m1139 m1141 a1142 m1143 k1177 n v1140 a1144 a1145) ls k) tabOk (g72Calls m) mixed (loopsOk_of _ (fun p hp => by rw [show loopsOf (bodyAt Go.Proofs.Try.f72 0) = [] by kernel_rfl] at hp; cases hp))
    (fun _ _ => rfl) (fun n ls k => g72l0Step (g95 m) (g96 m) (g72l0M m) (fun m1134 m1135 m1136 m1137 m1138 m1139 m1141 a1142 m1143 k1177 => g72l0 (g95 m) (g96 m) m1134 m1135 m1136 m1137 m1138 m1139 m1141 a1142 m1143 k1177 n) ls k) (n := m) h
theorem g72Fn (m : Nat) : FnOk Go.Proofs.Try.prog 72 g72tp g72bp (fun {α} => g72K (g72 (α := α) m)) :=
  fn_ok (tab := tab) (h := g72h m) (fn := Go.Proofs.Try.f72) (F := fun {α} => g72K (g72 (α := α) m)) tabOk (g72Calls m) mixed (by kernel_rfl) (by kernel_rfl) (fun c hc => by
    rw [bodyOf_some hc]
    exact loopsOk_of _ (fun p hp => by
    rw [show loopsOf (bodyOf Go.Proofs.Try.f72) = [(0, bodyAt Go.Proofs.Try.f72 0)] by kernel_rfl] at hp
    simp only [List.mem_cons, List.not_mem_nil, or_false] at hp
    rcases hp with rfl
    exact g72l0Ok m))
    (fun α ls k => g72Main (g95 m) (g96 m) (g72l0M m) ls k)
theorem g72Ok (m : Nat) : RowOk Go.Proofs.Try.prog 72 (fun {α} => rowK g72tp g72bp (g72K (g72 (α := α) m))) := row_of (g72Fn m)

/-! ### g26: spec.ReachOf -/
def g26b {α : Type} (G_g71 : {α : Type} → Nat → Nat → Nat → Int → Int → Nat → (List (List Int)) → (Int → Option α) → Option α) (G_g72 : {α : Type} → Nat → Nat → Nat → Int → Nat → (List (List Int)) → ((List Int) → Option α) → Option α)  (m1092 : Nat) (m1093 : Nat) (m1094 : Nat) (p1095 : Int) (m1096 : Nat) (u1097 : List (List Int)) (k1182 : Int → (List Int) → Option α) : Option α :=
  G_g71 m1092 m1093 m1094 p1095 (0 : Int) m1096 u1097
    (fun x1124 =>
      cond (x1124 != (0 : Int))
       (
        k1182 x1124 [])
       (
        G_g72 m1092 m1093 m1094 p1095 m1096 u1097
          (fun l1181 =>
            k1182 (0 : Int) l1181)))
def g26 {α : Type} (m : Nat) : Nat → Nat → Nat → Int → Nat → (List (List Int)) → (Int → (List Int) → Option α) → Option α :=
  g26b (g71 m) (g72 m)
def g26tp : List TP := [(.vl (.sv (.slc 0 0 5))), (.vl (.sv (.int .i64)))]
def g26bp : List BP := [(false, [(.seqv (.rc [.i8, .i16, .i16, .i64, .i64]))])]
def g26K {α : Type} (G : Nat → Nat → Nat → Int → Nat → (List (List Int)) → (Int → (List Int) → Option α) → Option α) (ls : List Lf) (k : TV → List (List Seg) → List (List Seg) → Option α) : Option α :=
  G (lf ls 0).nat (lf ls 1).nat (lf ls 2).nat (lf ls 3).int (lf ls 4).nat ((lf ls 5).lst (.rc [.i8, .i16, .i16, .i64, .i64]))
    (fun y0 y3 => k (.tup [(.sv (.gsl 1 1)), (.sv (.int .i64 y0))]) [[(.seq (.rc [.i8, .i16, .i16, .i64, .i64]) (lf ls 4).nat ((lf ls 5).lst (.rc [.i8, .i16, .i16, .i64, .i64])))]] [[(.gro (.int .i64) y3)]])
def g26hd (G_g71 : {α : Type} → Nat → Nat → Nat → Int → Int → Nat → (List (List Int)) → (Int → Option α) → Option α) (G_g72 : {α : Type} → Nat → Nat → Nat → Int → Nat → (List (List Int)) → ((List Int) → Option α) → Option α)  : Hd where
  call := fun f args Bs k => cond (Nat.beq f 71) (rowK g71tp g71bp (g71K G_g71) args Bs k) (cond (Nat.beq f 72) (rowK g72tp g72bp (g72K G_g72) args Bs k) (none))
  loop := fun id st k => none
  ro := fun f => cond (Nat.beq f 71) [0] (cond (Nat.beq f 72) [0] ([]))
def g26h (m : Nat) : Hd := g26hd (g71 m) (g72 m)
theorem g26Main (G_g71 : {α : Type} → Nat → Nat → Nat → Int → Int → Nat → (List (List Int)) → (Int → Option α) → Option α) (G_g72 : {α : Type} → Nat → Nat → Nat → Int → Nat → (List (List Int)) → ((List Int) → Option α) → Option α)  {α : Type} (ls : List Lf) (k : TV → List (List Seg) → List (List Seg) → Option α) :
    g26K (g26b G_g71 G_g72) ls k = evFun tab (g26hd G_g71 G_g72) Go.Proofs.Try.f26 (fillT g26tp ls).1 (fillB g26bp (fillT g26tp ls).2).1 k := by kernel_rfl
theorem g26Calls (m : Nat) : (g26h m).CallsOk Go.Proofs.Try.prog := (cok_cons (g71Ok m) (cok_cons (g72Ok m) cok_nil))
theorem g26Fn (m : Nat) : FnOk Go.Proofs.Try.prog 26 g26tp g26bp (fun {α} => g26K (g26 (α := α) m)) :=
  fn_ok (tab := tab) (h := g26h m) (fn := Go.Proofs.Try.f26) (F := fun {α} => g26K (g26 (α := α) m)) tabOk (g26Calls m) mixed (by kernel_rfl) (by kernel_rfl) (fun c hc => by
    rw [bodyOf_some hc]
    exact loopsOk_of _ (fun p hp => by rw [show loopsOf (bodyOf Go.Proofs.Try.f26) = [] by kernel_rfl] at hp; cases hp))
    (fun α ls k => g26Main (g71 m) (g72 m) ls k)
theorem g26Ok (m : Nat) : RowOk Go.Proofs.Try.prog 26 (fun {α} => rowK g26tp g26bp (g26K (g26 (α := α) m))) := row_of (g26Fn m)

/-! ### g97: impl.nodeOk -/
def g97l0b {α : Type} (G_g64 : {α : Type} → Int → Int → Int → (Bool → Option α) → Option α)  (m1214 : Nat) (m1215 : Nat) (m1216 : Nat) (m1217 : Nat) (m1218 : Nat) (m1219 : Nat) (v1220 : Int) (m1222 : Nat) (a1223 : List (List Int)) (a1224 : List Int) (k1231 : Option α) (k1232 : Option α) (r1233 : Int → Option α) (v1221 : Int) : Option α :=
  cond (decide (v1221 < v1220))
   (
    if 0 ≤ v1221 ∧ v1221 < (m1218 : Nat) then
      if (m1217 + v1221.toNat) < 1 then
        G_g64 (List.getD a1224 (m1217 + v1221.toNat) 0) (0 : Int) (IntKind.wrap .i64 (((m1215 : Nat) : Int) - (1 : Int)))
          (fun b1228 =>
            cond (!b1228)
             (
              k1231)
             (
              r1233 (IntKind.wrap .i64 (v1221 + (1 : Int)))))
      else
        none
    else
      none)
   (
    k1232)
def g97l0 {α : Type} (G_g64 : {α : Type} → Int → Int → Int → (Bool → Option α) → Option α)  (m1214 : Nat) (m1215 : Nat) (m1216 : Nat) (m1217 : Nat) (m1218 : Nat) (m1219 : Nat) (v1220 : Int) (m1222 : Nat) (a1223 : List (List Int)) (a1224 : List Int) (k1231 : Option α) (k1232 : Option α) : Nat → Int → Option α
  | 0 => fun _ => none
  | m + 1 => fun v1221 => g97l0b G_g64 m1214 m1215 m1216 m1217 m1218 m1219 v1220 m1222 a1223 a1224 k1231 k1232 (g97l0 G_g64 m1214 m1215 m1216 m1217 m1218 m1219 v1220 m1222 a1223 a1224 k1231 k1232 m) v1221
def g97l0M {α : Type} (m : Nat) : Nat → Nat → Nat → Nat → Nat → Nat → Int → Nat → (List (List Int)) → (List Int) → (Option α) → (Option α) → Int → Option α :=
  fun m1214 m1215 m1216 m1217 m1218 m1219 v1220 m1222 a1223 a1224 k1231 k1232 v1221 => g97l0 (g64 m) m1214 m1215 m1216 m1217 m1218 m1219 v1220 m1222 a1223 a1224 k1231 k1232 m v1221
def g97l0D : LoopD := { n := 20, low := [0, 1], sl := [0, 7, 8, 9], bl := [0, 1], tp := [(.vl (.sv (.slc 0 0 5))), (.vl (.sv (.slc 1 0 1))), (.vl (.sv (.int .i64))), (.vl (.sv (.int .i64)))], bp := [(false, [(.seqv (.rc [.i8, .i16, .i16, .i64, .i64]))]), (false, [(.seq (.int .i64) 1)])], xs := [(1, [4]), (2, [])] }
def g97l0K {α : Type} (L : Nat → Nat → Nat → Nat → Nat → Nat → Int → Nat → (List (List Int)) → (List Int) → (Option α) → (Option α) → Int → Option α) (ls : List Lf) (k : Ex → St → Option α) : Option α :=
  L (lf ls 0).nat (lf ls 1).nat (lf ls 2).nat (lf ls 3).nat (lf ls 4).nat (lf ls 5).nat (lf ls 6).int (lf ls 8).nat ((lf ls 9).lst (.rc [.i8, .i16, .i16, .i64, .i64])) ((lf ls 10).lst (.int .i64))
    (k .ret (mkSt 20 [4] [(.vl (.sv (.bool false)))] [0, 1] [(false, [(.seq (.rc [.i8, .i16, .i16, .i64, .i64]) (lf ls 8).nat ((lf ls 9).lst (.rc [.i8, .i16, .i16, .i64, .i64])))]), (false, [(.seq (.int .i64) 1 ((lf ls 10).lst (.int .i64)))])]))
    (k .normal (mkSt 20 [] [] [0, 1] [(false, [(.seq (.rc [.i8, .i16, .i16, .i64, .i64]) (lf ls 8).nat ((lf ls 9).lst (.rc [.i8, .i16, .i16, .i64, .i64])))]), (false, [(.seq (.int .i64) 1 ((lf ls 10).lst (.int .i64)))])]))
    (lf ls 7).int
def g97b {α : Type} (G_g64 : {α : Type} → Int → Int → Int → (Bool → Option α) → Option α) (L_g97l0 : {α : Type} → Nat → Nat → Nat → Nat → Nat → Nat → Int → Nat → (List (List Int)) → (List Int) → (Option α) → (Option α) → Int → Option α) (m1205 : Nat) (m1206 : Nat) (m1207 : Nat) (m1208 : Nat) (m1209 : Nat) (m1210 : Nat) (m1211 : Nat) (u1212 : List (List Int)) (u1213 : List Int) (k1234 : Bool → Option α) : Option α :=
  L_g97l0 m1205 m1206 m1207 m1208 m1209 m1210 ((m1209 : Nat) : Int) m1211 u1212 u1213
    (
      k1234 false)
    (
      k1234 true)
    (0 : Int)
def g97 {α : Type} (m : Nat) : Nat → Nat → Nat → Nat → Nat → Nat → Nat → (List (List Int)) → (List Int) → (Bool → Option α) → Option α :=
  g97b (g64 m) (g97l0M m)
def g97tp : List TP := [(.vl (.sv (.slc 0 0 5))), (.vl (.sv (.slc 1 0 1)))]
def g97bp : List BP := [(false, [(.seqv (.rc [.i8, .i16, .i16, .i64, .i64]))]), (false, [(.seq (.int .i64) 1)])]
def g97K {α : Type} (G : Nat → Nat → Nat → Nat → Nat → Nat → Nat → (List (List Int)) → (List Int) → (Bool → Option α) → Option α) (ls : List Lf) (k : TV → List (List Seg) → List (List Seg) → Option α) : Option α :=
  G (lf ls 0).nat (lf ls 1).nat (lf ls 2).nat (lf ls 3).nat (lf ls 4).nat (lf ls 5).nat (lf ls 6).nat ((lf ls 7).lst (.rc [.i8, .i16, .i16, .i64, .i64])) ((lf ls 8).lst (.int .i64))
    (fun y0 => k (.vl (.sv (.bool y0))) [[(.seq (.rc [.i8, .i16, .i16, .i64, .i64]) (lf ls 6).nat ((lf ls 7).lst (.rc [.i8, .i16, .i16, .i64, .i64])))], [(.seq (.int .i64) 1 ((lf ls 8).lst (.int .i64)))]] [])
def g97hd (G_g64 : {α : Type} → Int → Int → Int → (Bool → Option α) → Option α) (L_g97l0 : {α : Type} → Nat → Nat → Nat → Nat → Nat → Nat → Int → Nat → (List (List Int)) → (List Int) → (Option α) → (Option α) → Int → Option α) : Hd where
  call := fun f args Bs k => cond (Nat.beq f 64) (rowK g64tp g64bp (g64K G_g64) args Bs k) (none)
  loop := fun id st k => cond (Nat.beq id 0) (loopH g97l0D (g97l0K L_g97l0) st k) (none)
  ro := fun f => []
def g97h (m : Nat) : Hd := g97hd (g64 m) (g97l0M m)
theorem g97l0Step (G_g64 : {α : Type} → Int → Int → Int → (Bool → Option α) → Option α) (L_g97l0 : {α : Type} → Nat → Nat → Nat → Nat → Nat → Nat → Int → Nat → (List (List Int)) → (List Int) → (Option α) → (Option α) → Int → Option α) {α : Type} (L : Nat → Nat → Nat → Nat → Nat → Nat → Int → Nat → (List (List Int)) → (List Int) → (Option α) → (Option α) → Int → Option α) (ls : List Lf) (k : Ex → St → Option α) :
    g97l0K (fun m1214 m1215 m1216 m1217 m1218 m1219 v1220 m1222 a1223 a1224 k1231 k1232 v1221 => g97l0b G_g64 m1214 m1215 m1216 m1217 m1218 m1219 v1220 m1222 a1223 a1224 k1231 k1232 (L m1214 m1215 m1216 m1217 m1218 m1219 v1220 m1222 a1223 a1224 k1231 k1232) v1221) ls k = ev tab (g97hd G_g64 L_g97l0) (bodyAt Go.Proofs.Try.f97 0) (atHead g97l0D ls) (loopK g97l0D 0 (loopH g97l0D (g97l0K L)) k) := by kernel_rfl
theorem g97Main (G_g64 : {α : Type} → Int → Int → Int → (Bool → Option α) → Option α) (L_g97l0 : {α : Type} → Nat → Nat → Nat → Nat → Nat → Nat → Int → Nat → (List (List Int)) → (List Int) → (Option α) → (Option α) → Int → Option α) {α : Type} (ls : List Lf) (k : TV → List (List Seg) → List (List Seg) → Option α) :
    g97K (g97b G_g64 L_g97l0) ls k = evFun tab (g97hd G_g64 L_g97l0) Go.Proofs.Try.f97 (fillT g97tp ls).1 (fillB g97bp (fillT g97tp ls).2).1 k := by kernel_rfl
theorem g97Calls (m : Nat) : (g97h m).CallsOk Go.Proofs.Try.prog := (cok_cons (g64Ok m) cok_nil)
theorem g97l0Ok (m : Nat) (α : Type) (st : St) (k : Ex → St → Option α) (r : α) (h : (g97h m).loop 0 st k = some r) :
    ∃ e st', k e st' = some r ∧ CodeS Go.Proofs.Try.prog (.block 0 (.loop (bodyAt Go.Proofs.Try.f97 0))) st e st' :=
  loop_ok (tab := tab) (h := g97h m) (F := fun n ls k => g97l0K (fun m1214 m1215 m1216 m1217 m1218 m1219 v1220 m1222 a1223 a1224 k1231 k1232 v1221 => g97l0 (g64 m) m1214 m1215 m1216 m1217 m1218 m1219 v1220 m1222 a1223 a1224 k1231 k1232 n v1221) ls k) tabOk (g97Calls m) mixed (loopsOk_of _ (fun p hp => by rw [show loopsOf (bodyAt Go.Proofs.Try.f97 0) = [] by kernel_rfl] at hp; cases hp))
    (fun _ _ => rfl) (fun n ls k => g97l0Step (g64 m) (g97l0M m) (fun m1214 m1215 m1216 m1217 m1218 m1219 v1220 m1222 a1223 a1224 k1231 k1232 => g97l0 (g64 m) m1214 m1215 m1216 m1217 m1218 m1219 v1220 m1222 a1223 a1224 k1231 k1232 n) ls k) (n := m) h
theorem g97Fn (m : Nat) : FnOk Go.Proofs.Try.prog 97 g97tp g97bp (fun {α} => g97K (g97 (α := α) m)) :=
  fn_ok (tab := tab) (h := g97h m) (fn := Go.Proofs.Try.f97) (F := fun {α} => g97K (g97 (α := α) m)) tabOk (g97Calls m) mixed (by kernel_rfl) (by kernel_rfl) (fun c hc => by
    rw [bodyOf_some hc]
    exact loopsOk_of _ (fun p hp => by
    rw [show loopsOf (bodyOf Go.Proofs.Try.f97) = [(0, bodyAt Go.Proofs.Try.f97 0)] by kernel_rfl] at hp
    simp only [List.mem_cons, List.not_mem_nil, or_false] at hp
    rcases hp with rfl
    exact g97l0Ok m))
    (fun α ls k => g97Main (g64 m) (g97l0M m) ls k)
theorem g97Ok (m : Nat) : RowOk Go.Proofs.Try.prog 97 (fun {α} => rowK g97tp g97bp (g97K (g97 (α := α) m))) := row_of (g97Fn m)

/-! ### g98: impl.newAsker -/
def g98b {α : Type}   (m1239 : Nat) (m1240 : Nat) (m1241 : Nat) (m1242 : Nat) (u1243 : List (List Int)) (k1244 : Option α) : Option α :=
  k1244
def g98 {α : Type} (m : Nat) : Nat → Nat → Nat → Nat → (List (List Int)) → (Option α) → Option α :=
  g98b
def g98tp : List TP := [(.vl (.sv (.slc 0 0 5)))]
def g98bp : List BP := [(false, [(.seqv (.rc [.i8, .i16, .i16, .i64, .i64]))])]
def g98K {α : Type} (G : Nat → Nat → Nat → Nat → (List (List Int)) → (Option α) → Option α) (ls : List Lf) (k : TV → List (List Seg) → List (List Seg) → Option α) : Option α :=
  G (lf ls 0).nat (lf ls 1).nat (lf ls 2).nat (lf ls 3).nat ((lf ls 4).lst (.rc [.i8, .i16, .i16, .i64, .i64]))
    (k (.vl (.sv (.ptr 1 0))) [[(.seq (.rc [.i8, .i16, .i16, .i64, .i64]) (lf ls 3).nat ((lf ls 4).lst (.rc [.i8, .i16, .i16, .i64, .i64])))]] [[(.one (.bool false)), (.one (.slc 0 0 5 (lf ls 0).nat (lf ls 1).nat (lf ls 2).nat)), (.one .opq), (.one .nils), (.one (.int .i64 (0 : Int)))]])
def g98hd   : Hd where
  call := fun f args Bs k => none
  loop := fun id st k => none
  ro := fun f => []
def g98h (m : Nat) : Hd := g98hd
theorem g98Main   {α : Type} (ls : List Lf) (k : TV → List (List Seg) → List (List Seg) → Option α) :
    g98K (g98b) ls k = evFun tab (g98hd) Go.Proofs.Try.f98 (fillT g98tp ls).1 (fillB g98bp (fillT g98tp ls).2).1 k := by kernel_rfl
theorem g98Calls (m : Nat) : (g98h m).CallsOk Go.Proofs.Try.prog := cok_nil
theorem g98Fn (m : Nat) : FnOk Go.Proofs.Try.prog 98 g98tp g98bp (fun {α} => g98K (g98 (α := α) m)) :=
  fn_ok (tab := tab) (h := g98h m) (fn := Go.Proofs.Try.f98) (F := fun {α} => g98K (g98 (α := α) m)) tabOk (g98Calls m) mixed (by kernel_rfl) (by kernel_rfl) (fun c hc => by
    rw [bodyOf_some hc]
    exact loopsOk_of _ (fun p hp => by rw [show loopsOf (bodyOf Go.Proofs.Try.f98) = [] by kernel_rfl] at hp; cases hp))
    (fun α ls k => g98Main ls k)
theorem g98Ok (m : Nat) : RowOk Go.Proofs.Try.prog 98 (fun {α} => rowK g98tp g98bp (g98K (g98 (α := α) m))) := row_of (g98Fn m)

/-! ### g73: impl.begin -/
def g73b {α : Type} (G_g17 : {α : Type} → Nat → Nat → Nat → Nat → (List (List Int)) → (Bool → Option α) → Option α) (G_g97 : {α : Type} → Nat → Nat → Nat → Nat → Nat → Nat → Nat → (List (List Int)) → (List Int) → (Bool → Option α) → Option α) (G_g64 : {α : Type} → Int → Int → Int → (Bool → Option α) → Option α) (G_g98 : {α : Type} → Nat → Nat → Nat → Nat → (List (List Int)) → (Option α) → Option α)  (m1192 : Nat) (m1193 : Nat) (m1194 : Nat) (p1195 : Int) (p1196 : Int) (m1197 : Nat) (m1198 : Nat) (m1199 : Nat) (m1200 : Nat) (u1201 : List (List Int)) (u1202 : List Int) (k1245 : Int → Option α) (k1246 : Option α) : Option α :=
  G_g17 m1192 m1193 m1194 m1200 u1201
    (fun b1203 =>
      cond (!b1203)
       (
        k1245 (1 : Int))
       (
        G_g97 m1192 m1193 m1194 m1197 m1198 m1199 m1200 u1201 u1202
          (fun b1235 =>
            cond (!b1235)
             (
              k1245 (2 : Int))
             (
              G_g64 p1195 (0 : Int) p1196
                (fun b1237 =>
                  cond (!b1237)
                   (
                    k1245 (2 : Int))
                   (
                    G_g98 m1192 m1193 m1194 m1200 u1201
                      (
                        k1246)))))))
def g73 {α : Type} (m : Nat) : Nat → Nat → Nat → Int → Int → Nat → Nat → Nat → Nat → (List (List Int)) → (List Int) → (Int → Option α) → (Option α) → Option α :=
  g73b (g17 m) (g97 m) (g64 m) (g98 m)
def g73tp : List TP := [(.vl (.sv (.slc 0 0 5))), (.vl (.sv (.int .i64))), (.vl (.sv (.int .i64))), (.vl (.sv (.slc 1 0 1)))]
def g73bp : List BP := [(false, [(.seqv (.rc [.i8, .i16, .i16, .i64, .i64]))]), (false, [(.seq (.int .i64) 1)])]
def g73K {α : Type} (G : Nat → Nat → Nat → Int → Int → Nat → Nat → Nat → Nat → (List (List Int)) → (List Int) → (Int → Option α) → (Option α) → Option α) (ls : List Lf) (k : TV → List (List Seg) → List (List Seg) → Option α) : Option α :=
  G (lf ls 0).nat (lf ls 1).nat (lf ls 2).nat (lf ls 3).int (lf ls 4).int (lf ls 5).nat (lf ls 6).nat (lf ls 7).nat (lf ls 8).nat ((lf ls 9).lst (.rc [.i8, .i16, .i16, .i64, .i64])) ((lf ls 10).lst (.int .i64))
    (fun y0 => k (.tup [(.sv .nilp), (.sv (.int .i64 y0))]) [[(.seq (.rc [.i8, .i16, .i16, .i64, .i64]) (lf ls 8).nat ((lf ls 9).lst (.rc [.i8, .i16, .i16, .i64, .i64])))], [(.seq (.int .i64) 1 ((lf ls 10).lst (.int .i64)))]] [])
    (k (.tup [(.sv (.ptr 2 0)), (.sv (.int .i64 (0 : Int)))]) [[(.seq (.rc [.i8, .i16, .i16, .i64, .i64]) (lf ls 8).nat ((lf ls 9).lst (.rc [.i8, .i16, .i16, .i64, .i64])))], [(.seq (.int .i64) 1 ((lf ls 10).lst (.int .i64)))]] [[(.one (.bool false)), (.one (.slc 0 0 5 (lf ls 0).nat (lf ls 1).nat (lf ls 2).nat)), (.one .opq), (.one .nils), (.one (.int .i64 (0 : Int)))]])
def g73hd (G_g17 : {α : Type} → Nat → Nat → Nat → Nat → (List (List Int)) → (Bool → Option α) → Option α) (G_g97 : {α : Type} → Nat → Nat → Nat → Nat → Nat → Nat → Nat → (List (List Int)) → (List Int) → (Bool → Option α) → Option α) (G_g64 : {α : Type} → Int → Int → Int → (Bool → Option α) → Option α) (G_g98 : {α : Type} → Nat → Nat → Nat → Nat → (List (List Int)) → (Option α) → Option α)  : Hd where
  call := fun f args Bs k => cond (Nat.beq f 17) (rowK g17tp g17bp (g17K G_g17) args Bs k) (cond (Nat.beq f 97) (rowK g97tp g97bp (g97K G_g97) args Bs k) (cond (Nat.beq f 64) (rowK g64tp g64bp (g64K G_g64) args Bs k) (cond (Nat.beq f 98) (rowK g98tp g98bp (g98K G_g98) args Bs k) (none))))
  loop := fun id st k => none
  ro := fun f => cond (Nat.beq f 17) [0] (cond (Nat.beq f 97) [0, 1] (cond (Nat.beq f 98) [0] ([])))
def g73h (m : Nat) : Hd := g73hd (g17 m) (g97 m) (g64 m) (g98 m)
theorem g73Main (G_g17 : {α : Type} → Nat → Nat → Nat → Nat → (List (List Int)) → (Bool → Option α) → Option α) (G_g97 : {α : Type} → Nat → Nat → Nat → Nat → Nat → Nat → Nat → (List (List Int)) → (List Int) → (Bool → Option α) → Option α) (G_g64 : {α : Type} → Int → Int → Int → (Bool → Option α) → Option α) (G_g98 : {α : Type} → Nat → Nat → Nat → Nat → (List (List Int)) → (Option α) → Option α)  {α : Type} (ls : List Lf) (k : TV → List (List Seg) → List (List Seg) → Option α) :
    g73K (g73b G_g17 G_g97 G_g64 G_g98) ls k = evFun tab (g73hd G_g17 G_g97 G_g64 G_g98) Go.Proofs.Try.f73 (fillT g73tp ls).1 (fillB g73bp (fillT g73tp ls).2).1 k := by kernel_rfl
theorem g73Calls (m : Nat) : (g73h m).CallsOk Go.Proofs.Try.prog := (cok_cons (g17Ok m) (cok_cons (g97Ok m) (cok_cons (g64Ok m) (cok_cons (g98Ok m) cok_nil))))
theorem g73Fn (m : Nat) : FnOk Go.Proofs.Try.prog 73 g73tp g73bp (fun {α} => g73K (g73 (α := α) m)) :=
  fn_ok (tab := tab) (h := g73h m) (fn := Go.Proofs.Try.f73) (F := fun {α} => g73K (g73 (α := α) m)) tabOk (g73Calls m) mixed (by kernel_rfl) (by kernel_rfl) (fun c hc => by
    rw [bodyOf_some hc]
    exact loopsOk_of _ (fun p hp => by rw [show loopsOf (bodyOf Go.Proofs.Try.f73) = [] by kernel_rfl] at hp; cases hp))
    (fun α ls k => g73Main (g17 m) (g97 m) (g64 m) (g98 m) ls k)
theorem g73Ok (m : Nat) : RowOk Go.Proofs.Try.prog 73 (fun {α} => rowK g73tp g73bp (g73K (g73 (α := α) m))) := row_of (g73Fn m)

/-! ### g74: impl.reached -/
def g74l0b {α : Type} (G_g43 : {α : Type} → Int → (Bool → Bool → Bool → Option α) → Option α)  (m1257 : Nat) (m1258 : Nat) (m1259 : Nat) (m1260 : Nat) (m1261 : Nat) (m1262 : Nat) (m1264 : Nat) (a1265 : List (List Int)) (m1266 : Nat) (k1286 : (List Bool) → Option α) (r1287 : Int → (List Bool) → Option α) (v1263 : Int) (a1267 : List Bool) : Option α :=
  cond (decide (v1263 ≥ (0 : Int)))
   (
    if 0 ≤ v1263 ∧ v1263 < (m1261 : Nat) then
      if (m1260 + v1263.toNat) < m1266 then
        cond (!(List.getD a1267 (m1260 + v1263.toNat) false))
         (
          r1287 (IntKind.wrap .i64 (v1263 - (1 : Int))) a1267)
         (
          if 0 ≤ v1263 ∧ v1263 < (m1258 : Nat) then
            if (m1257 + v1263.toNat) < m1264 then
              G_g43 ((List.getD a1265 (m1257 + v1263.toNat) []).headD 0)
                (fun b1273 b1274 b1275 =>
                  cond b1273
                   (
                    if 0 ≤ v1263 ∧ v1263 < (m1258 : Nat) then
                      if (m1257 + v1263.toNat) < m1264 then
                        let x1276 : Int := ((List.getD a1265 (m1257 + v1263.toNat) []).tail).headD 0
                        if 0 ≤ x1276 ∧ x1276 < (m1261 : Nat) then
                          if (m1260 + x1276.toNat) < m1266 then
                            let l1277 : List Bool := List.set a1267 (m1260 + x1276.toNat) true
                            cond b1274
                             (
                              if 0 ≤ v1263 ∧ v1263 < (m1258 : Nat) then
                                if (m1257 + v1263.toNat) < m1264 then
                                  let x1278 : Int := ((List.getD a1265 (m1257 + v1263.toNat) []).tail.tail).headD 0
                                  if 0 ≤ x1278 ∧ x1278 < (m1261 : Nat) then
                                    if (m1260 + x1278.toNat) < m1266 then
                                      r1287 (IntKind.wrap .i64 (v1263 - (1 : Int))) (List.set l1277 (m1260 + x1278.toNat) true)
                                    else
                                      none
                                  else
                                    none
                                else
                                  none
                              else
                                none)
                             (
                              r1287 (IntKind.wrap .i64 (v1263 - (1 : Int))) l1277)
                          else
                            none
                        else
                          none
                      else
                        none
                    else
                      none)
                   (
                    cond b1274
                     (
                      if 0 ≤ v1263 ∧ v1263 < (m1258 : Nat) then
                        if (m1257 + v1263.toNat) < m1264 then
                          let x1282 : Int := ((List.getD a1265 (m1257 + v1263.toNat) []).tail.tail).headD 0
                          if 0 ≤ x1282 ∧ x1282 < (m1261 : Nat) then
                            if (m1260 + x1282.toNat) < m1266 then
                              r1287 (IntKind.wrap .i64 (v1263 - (1 : Int))) (List.set a1267 (m1260 + x1282.toNat) true)
                            else
                              none
                          else
                            none
                        else
                          none
                      else
                        none)
                     (
                      r1287 (IntKind.wrap .i64 (v1263 - (1 : Int))) a1267)))
            else
              none
          else
            none)
      else
        none
    else
      none)
   (
    k1286 a1267)
def g74l0 {α : Type} (G_g43 : {α : Type} → Int → (Bool → Bool → Bool → Option α) → Option α)  (m1257 : Nat) (m1258 : Nat) (m1259 : Nat) (m1260 : Nat) (m1261 : Nat) (m1262 : Nat) (m1264 : Nat) (a1265 : List (List Int)) (m1266 : Nat) (k1286 : (List Bool) → Option α) : Nat → Int → (List Bool) → Option α
  | 0 => fun _ _ => none
  | m + 1 => fun v1263 a1267 => g74l0b G_g43 m1257 m1258 m1259 m1260 m1261 m1262 m1264 a1265 m1266 k1286 (g74l0 G_g43 m1257 m1258 m1259 m1260 m1261 m1262 m1264 a1265 m1266 k1286 m) v1263 a1267
def g74l0M {α : Type} (m : Nat) : Nat → Nat → Nat → Nat → Nat → Nat → Nat → (List (List Int)) → Nat → ((List Bool) → Option α) → Int → (List Bool) → Option α :=
  fun m1257 m1258 m1259 m1260 m1261 m1262 m1264 a1265 m1266 k1286 v1263 a1267 => g74l0 (g43 m) m1257 m1258 m1259 m1260 m1261 m1262 m1264 a1265 m1266 k1286 m v1263 a1267
def g74l0D : LoopD := { n := 53, low := [0], sl := [0, 5, 6], bl := [0, 1000001], tp := [(.vl (.sv (.slc 0 0 5))), (.vl (.sv (.slc 1000001 0 1))), (.vl (.sv (.int .i64)))], bp := [(false, [(.seqv (.rc [.i8, .i16, .i16, .i64, .i64]))]), (true, [(.seqv .bool)])], xs := [(2, [5])] }
def g74l0K {α : Type} (L : Nat → Nat → Nat → Nat → Nat → Nat → Nat → (List (List Int)) → Nat → ((List Bool) → Option α) → Int → (List Bool) → Option α) (ls : List Lf) (k : Ex → St → Option α) : Option α :=
  L (lf ls 0).nat (lf ls 1).nat (lf ls 2).nat (lf ls 3).nat (lf ls 4).nat (lf ls 5).nat (lf ls 7).nat ((lf ls 8).lst (.rc [.i8, .i16, .i16, .i64, .i64])) (lf ls 9).nat
    (fun y6 => k .normal (mkSt 53 [5] [(.vl (.sv (.slc 1000001 0 1 (lf ls 3).nat (lf ls 4).nat (lf ls 5).nat)))] [0, 1000001] [(false, [(.seq (.rc [.i8, .i16, .i16, .i64, .i64]) (lf ls 7).nat ((lf ls 8).lst (.rc [.i8, .i16, .i16, .i64, .i64])))]), (true, [(.seq .bool (lf ls 9).nat y6)])]))
    (lf ls 6).int ((lf ls 10).lst .bool)
def g74b {α : Type} (G_g43 : {α : Type} → Int → (Bool → Bool → Bool → Option α) → Option α) (L_g74l0 : {α : Type} → Nat → Nat → Nat → Nat → Nat → Nat → Nat → (List (List Int)) → Nat → ((List Bool) → Option α) → Int → (List Bool) → Option α) (m1249 : Nat) (m1250 : Nat) (m1251 : Nat) (p1252 : Int) (m1253 : Nat) (u1254 : List (List Int)) (k1289 : (List Bool) → Option α) : Option α :=
  if ((m1250 : Nat) : Int) = ((m1250 : Nat) : Int) ∧ 0 ≤ ((m1250 : Nat) : Int) ∧ ((m1250 : Nat) : Int) ≤ 1048576 then
    if 0 ≤ p1252 ∧ p1252 < (m1250 : Nat) then
      if (0 + p1252.toNat) < m1250 then
        L_g74l0 m1249 m1250 m1251 0 m1250 m1250 m1253 u1254 m1250
          (fun l1288 =>
            k1289 l1288)
          p1252 (List.set (List.replicate m1250 false) (0 + p1252.toNat) true)
      else
        none
    else
      none
  else
    none
def g74 {α : Type} (m : Nat) : Nat → Nat → Nat → Int → Nat → (List (List Int)) → ((List Bool) → Option α) → Option α :=
  g74b (g43 m) (g74l0M m)
def g74tp : List TP := [(.vl (.sv (.slc 0 0 5))), (.vl (.sv (.int .i64)))]
def g74bp : List BP := [(false, [(.seqv (.rc [.i8, .i16, .i16, .i64, .i64]))])]
def g74K {α : Type} (G : Nat → Nat → Nat → Int → Nat → (List (List Int)) → ((List Bool) → Option α) → Option α) (ls : List Lf) (k : TV → List (List Seg) → List (List Seg) → Option α) : Option α :=
  G (lf ls 0).nat (lf ls 1).nat (lf ls 2).nat (lf ls 3).int (lf ls 4).nat ((lf ls 5).lst (.rc [.i8, .i16, .i16, .i64, .i64]))
    (fun y6 => k (.vl (.sv (.slc 1 0 1 0 (lf ls 1).nat (lf ls 1).nat))) [[(.seq (.rc [.i8, .i16, .i16, .i64, .i64]) (lf ls 4).nat ((lf ls 5).lst (.rc [.i8, .i16, .i16, .i64, .i64])))]] [[(.seq .bool (lf ls 1).nat y6)]])
def g74hd (G_g43 : {α : Type} → Int → (Bool → Bool → Bool → Option α) → Option α) (L_g74l0 : {α : Type} → Nat → Nat → Nat → Nat → Nat → Nat → Nat → (List (List Int)) → Nat → ((List Bool) → Option α) → Int → (List Bool) → Option α) : Hd where
  call := fun f args Bs k => cond (Nat.beq f 43) (rowK g43tp g43bp (g43K G_g43) args Bs k) (none)
  loop := fun id st k => cond (Nat.beq id 0) (loopH g74l0D (g74l0K L_g74l0) st k) (none)
  ro := fun f => []
def g74h (m : Nat) : Hd := g74hd (g43 m) (g74l0M m)
theorem g74l0Step (G_g43 : {α : Type} → Int → (Bool → Bool → Bool → Option α) → Option α) (L_g74l0 : {α : Type} → Nat → Nat → Nat → Nat → Nat → Nat → Nat → (List (List Int)) → Nat → ((List Bool) → Option α) → Int → (List Bool) → Option α) {α : Type} (L : Nat → Nat → Nat → Nat → Nat → Nat → Nat → (List (List Int)) → Nat → ((List Bool) → Option α) → Int → (List Bool) → Option α) (ls : List Lf) (k : Ex → St → Option α) :
    g74l0K (fun m1257 m1258 m1259 m1260 m1261 m1262 m1264 a1265 m1266 k1286 v1263 a1267 => g74l0b G_g43 m1257 m1258 m1259 m1260 m1261 m1262 m1264 a1265 m1266 k1286 (L m1257 m1258 m1259 m1260 m1261 m1262 m1264 a1265 m1266 k1286) v1263 a1267) ls k = ev tab (g74hd G_g43 L_g74l0) (bodyAt Go.Proofs.Try.f74 0) (atHead g74l0D ls) (loopK g74l0D 0 (loopH g74l0D (g74l0K L)) k) := by kernel_rfl
theorem g74Main (G_g43 : {α : Type} → Int → (Bool → Bool → Bool → Option α) → Option α) (L_g74l0 : {α : Type} → Nat → Nat → Nat → Nat → Nat → Nat → Nat → (List (List Int)) → Nat → ((List Bool) → Option α) → Int → (List Bool) → Option α) {α : Type} (ls : List Lf) (k : TV → List (List Seg) → List (List Seg) → Option α) :
    g74K (g74b G_g43 L_g74l0) ls k = evFun tab (g74hd G_g43 L_g74l0) Go.Proofs.Try.f74 (fillT g74tp ls).1 (fillB g74bp (fillT g74tp ls).2).1 k := by kernel_rfl
theorem g74Calls (m : Nat) : (g74h m).CallsOk Go.Proofs.Try.prog := (cok_cons (g43Ok m) cok_nil)
theorem g74l0Ok (m : Nat) (α : Type) (st : St) (k : Ex → St → Option α) (r : α) (h : (g74h m).loop 0 st k = some r) :
    ∃ e st', k e st' = some r ∧ CodeS Go.Proofs.Try.prog (.block 0 (.loop (bodyAt Go.Proofs.Try.f74 0))) st e st' :=
  loop_ok (tab := tab) (h := g74h m) (F := fun n ls k => g74l0K (fun m1257 m1258 m1259 m1260 m1261 m1262 m1264 a1265 m1266 k1286 v1263 a1267 => g74l0 (g43 m) m1257 m1258 m1259 m1260 m1261 m1262 m1264 a1265 m1266 k1286 n v1263 a1267) ls k) tabOk (g74Calls m) mixed (loopsOk_of _ (fun p hp => by rw [show loopsOf (bodyAt Go.Proofs.Try.f74 0) = [] by kernel_rfl] at hp; cases hp))
    (fun _ _ => rfl) (fun n ls k => g74l0Step (g43 m) (g74l0M m) (fun m1257 m1258 m1259 m1260 m1261 m1262 m1264 a1265 m1266 k1286 => g74l0 (g43 m) m1257 m1258 m1259 m1260 m1261 m1262 m1264 a1265 m1266 k1286 n) ls k) (n := m) h
theorem g74Fn (m : Nat) : FnOk Go.Proofs.Try.prog 74 g74tp g74bp (fun {α} => g74K (g74 (α := α) m)) :=
  fn_ok (tab := tab) (h := g74h m) (fn := Go.Proofs.Try.f74) (F := fun {α} => g74K (g74 (α := α) m)) tabOk (g74Calls m) mixed (by kernel_rfl) (by kernel_rfl) (fun c hc => by
    rw [bodyOf_some hc]
    exact loopsOk_of _ (fun p hp => by
    rw [show loopsOf (bodyOf Go.Proofs.Try.f74) = [(0, bodyAt Go.Proofs.Try.f74 0)] by kernel_rfl] at hp
    simp only [List.mem_cons, List.not_mem_nil, or_false] at hp
    rcases hp with rfl
    exact g74l0Ok m))
    (fun α ls k => g74Main (g43 m) (g74l0M m) ls k)
theorem g74Ok (m : Nat) : RowOk Go.Proofs.Try.prog 74 (fun {α} => rowK g74tp g74bp (g74K (g74 (α := α) m))) := row_of (g74Fn m)

/-! ### g27: impl.ReachOf -/
def g27l0b {α : Type}   (m1291 : Nat) (m1292 : Nat) (m1293 : Nat) (v1294 : Int) (m1296 : Nat) (a1297 : List (List Int)) (m1299 : Nat) (a1300 : List Bool) (k1306 : (List Int) → Option α) (r1307 : Int → (List Int) → Option α) (v1295 : Int) (a1298 : List Int) : Option α :=
  cond (decide (v1295 < v1294))
   (
    if 0 ≤ v1295 ∧ v1295 < (m1292 : Nat) then
      if (m1291 + v1295.toNat) < m1299 then
        cond (List.getD a1300 (m1291 + v1295.toNat) false)
         (
          if a1298.length + 1 ≤ 67108864 then
            r1307 (IntKind.wrap .i64 (v1295 + (1 : Int))) (a1298 ++ [v1295])
          else
            none)
         (
          r1307 (IntKind.wrap .i64 (v1295 + (1 : Int))) a1298)
      else
        none
    else
      none)
   (
    k1306 a1298)
def g27l0 {α : Type}   (m1291 : Nat) (m1292 : Nat) (m1293 : Nat) (v1294 : Int) (m1296 : Nat) (a1297 : List (List Int)) (m1299 : Nat) (a1300 : List Bool) (k1306 : (List Int) → Option α) : Nat → Int → (List Int) → Option α
  | 0 => fun _ _ => none
  | m + 1 => fun v1295 a1298 => g27l0b m1291 m1292 m1293 v1294 m1296 a1297 m1299 a1300 k1306 (g27l0 m1291 m1292 m1293 v1294 m1296 a1297 m1299 a1300 k1306 m) v1295 a1298
def g27l0M {α : Type} (m : Nat) : Nat → Nat → Nat → Int → Nat → (List (List Int)) → Nat → (List Bool) → ((List Int) → Option α) → Int → (List Int) → Option α :=
  fun m1291 m1292 m1293 v1294 m1296 a1297 m1299 a1300 k1306 v1295 a1298 => g27l0 m1291 m1292 m1293 v1294 m1296 a1297 m1299 a1300 k1306 m v1295 a1298
def g27l0D : LoopD := { n := 38, low := [0], sl := [8, 24, 25, 26], bl := [0, 1000001, 1000002], tp := [(.vl (.sv (.gsl 1000001 1))), (.vl (.sv (.slc 1000002 0 1))), (.vl (.sv (.int .i64))), (.vl (.sv (.int .i64)))], bp := [(false, [(.seqv (.rc [.i8, .i16, .i16, .i64, .i64]))]), (true, [(.gro (.int .i64))]), (true, [(.seqv .bool)])], xs := [(2, [8])] }
def g27l0K {α : Type} (L : Nat → Nat → Nat → Int → Nat → (List (List Int)) → Nat → (List Bool) → ((List Int) → Option α) → Int → (List Int) → Option α) (ls : List Lf) (k : Ex → St → Option α) : Option α :=
  L (lf ls 0).nat (lf ls 1).nat (lf ls 2).nat (lf ls 3).int (lf ls 5).nat ((lf ls 6).lst (.rc [.i8, .i16, .i16, .i64, .i64])) (lf ls 8).nat ((lf ls 9).lst .bool)
    (fun y2 => k .normal (mkSt 38 [8] [(.vl (.sv (.gsl 1000001 1)))] [0, 1000001] [(false, [(.seq (.rc [.i8, .i16, .i16, .i64, .i64]) (lf ls 5).nat ((lf ls 6).lst (.rc [.i8, .i16, .i16, .i64, .i64])))]), (true, [(.gro (.int .i64) y2)])]))
    (lf ls 4).int ((lf ls 7).lst (.int .i64))
def g27b {α : Type} (G_g73 : {α : Type} → Nat → Nat → Nat → Int → Int → Nat → Nat → Nat → Nat → (List (List Int)) → (List Int) → (Int → Option α) → (Option α) → Option α) (G_g74 : {α : Type} → Nat → Nat → Nat → Int → Nat → (List (List Int)) → ((List Bool) → Option α) → Option α) (L_g27l0 : {α : Type} → Nat → Nat → Nat → Int → Nat → (List (List Int)) → Nat → (List Bool) → ((List Int) → Option α) → Int → (List Int) → Option α) (m1186 : Nat) (m1187 : Nat) (m1188 : Nat) (p1189 : Int) (m1190 : Nat) (u1191 : List (List Int)) (k1311 : Int → Option α) (k1312 : (List Int) → Option α) : Option α :=
  G_g73 m1186 m1187 m1188 (0 : Int) (0 : Int) 0 1 1 m1190 u1191 [p1189]
    (fun x1247 =>
      cond (x1247 != (0 : Int))
       (
        k1311 x1247)
       (
        G_g74 m1186 m1187 m1188 p1189 m1190 u1191
          (fun l1290 =>
            L_g27l0 0 m1187 m1187 ((m1187 : Nat) : Int) m1190 u1191 m1187 l1290
              (fun l1308 =>
                k1312 l1308)
              (0 : Int) [])))
    (
      G_g74 m1186 m1187 m1188 p1189 m1190 u1191
        (fun l1309 =>
          L_g27l0 0 m1187 m1187 ((m1187 : Nat) : Int) m1190 u1191 m1187 l1309
            (fun l1310 =>
              k1312 l1310)
            (0 : Int) []))
def g27 {α : Type} (m : Nat) : Nat → Nat → Nat → Int → Nat → (List (List Int)) → (Int → Option α) → ((List Int) → Option α) → Option α :=
  g27b (g73 m) (g74 m) (g27l0M m)
def g27tp : List TP := [(.vl (.sv (.slc 0 0 5))), (.vl (.sv (.int .i64)))]
def g27bp : List BP := [(false, [(.seqv (.rc [.i8, .i16, .i16, .i64, .i64]))])]
def g27K {α : Type} (G : Nat → Nat → Nat → Int → Nat → (List (List Int)) → (Int → Option α) → ((List Int) → Option α) → Option α) (ls : List Lf) (k : TV → List (List Seg) → List (List Seg) → Option α) : Option α :=
  G (lf ls 0).nat (lf ls 1).nat (lf ls 2).nat (lf ls 3).int (lf ls 4).nat ((lf ls 5).lst (.rc [.i8, .i16, .i16, .i64, .i64]))
    (fun y0 => k (.tup [(.sv .nils), (.sv (.int .i64 y0))]) [[(.seq (.rc [.i8, .i16, .i16, .i64, .i64]) (lf ls 4).nat ((lf ls 5).lst (.rc [.i8, .i16, .i16, .i64, .i64])))]] [])
    (fun y3 => k (.tup [(.sv (.gsl 1 1)), (.sv (.int .i64 (0 : Int)))]) [[(.seq (.rc [.i8, .i16, .i16, .i64, .i64]) (lf ls 4).nat ((lf ls 5).lst (.rc [.i8, .i16, .i16, .i64, .i64])))]] [[(.gro (.int .i64) y3)]])
def g27hd (G_g73 : {α : Type} → Nat → Nat → Nat → Int → Int → Nat → Nat → Nat → Nat → (List (List Int)) → (List Int) → (Int → Option α) → (Option α) → Option α) (G_g74 : {α : Type} → Nat → Nat → Nat → Int → Nat → (List (List Int)) → ((List Bool) → Option α) → Option α) (L_g27l0 : {α : Type} → Nat → Nat → Nat → Int → Nat → (List (List Int)) → Nat → (List Bool) → ((List Int) → Option α) → Int → (List Int) → Option α) : Hd where
  call := fun f args Bs k => cond (Nat.beq f 73) (rowK g73tp g73bp (g73K G_g73) args Bs k) (cond (Nat.beq f 74) (rowK g74tp g74bp (g74K G_g74) args Bs k) (none))
  loop := fun id st k => cond (Nat.beq id 0) (loopH g27l0D (g27l0K L_g27l0) st k) (none)
  ro := fun f => cond (Nat.beq f 73) [0, 1] (cond (Nat.beq f 74) [0] ([]))
def g27h (m : Nat) : Hd := g27hd (g73 m) (g74 m) (g27l0M m)
theorem g27l0Step (G_g73 : {α : Type} → Nat → Nat → Nat → Int → Int → Nat → Nat → Nat → Nat → (List (List Int)) → (List Int) → (Int → Option α) → (Option α) → Option α) (G_g74 : {α : Type} → Nat → Nat → Nat → Int → Nat → (List (List Int)) → ((List Bool) → Option α) → Option α) (L_g27l0 : {α : Type} → Nat → Nat → Nat → Int → Nat → (List (List Int)) → Nat → (List Bool) → ((List Int) → Option α) → Int → (List Int) → Option α) {α : Type} (L : Nat → Nat → Nat → Int → Nat → (List (List Int)) → Nat → (List Bool) → ((List Int) → Option α) → Int → (List Int) → Option α) (ls : List Lf) (k : Ex → St → Option α) :
    g27l0K (fun m1291 m1292 m1293 v1294 m1296 a1297 m1299 a1300 k1306 v1295 a1298 => g27l0b m1291 m1292 m1293 v1294 m1296 a1297 m1299 a1300 k1306 (L m1291 m1292 m1293 v1294 m1296 a1297 m1299 a1300 k1306) v1295 a1298) ls k = ev tab (g27hd G_g73 G_g74 L_g27l0) (bodyAt Go.Proofs.Try.f27 0) (atHead g27l0D ls) (loopK g27l0D 0 (loopH g27l0D (g27l0K L)) k) := by kernel_rfl
theorem g27Main (G_g73 : {α : Type} → Nat → Nat → Nat → Int → Int → Nat → Nat → Nat → Nat → (List (List Int)) → (List Int) → (Int → Option α) → (Option α) → Option α) (G_g74 : {α : Type} → Nat → Nat → Nat → Int → Nat → (List (List Int)) → ((List Bool) → Option α) → Option α) (L_g27l0 : {α : Type} → Nat → Nat → Nat → Int → Nat → (List (List Int)) → Nat → (List Bool) → ((List Int) → Option α) → Int → (List Int) → Option α) {α : Type} (ls : List Lf) (k : TV → List (List Seg) → List (List Seg) → Option α) :
    g27K (g27b G_g73 G_g74 L_g27l0) ls k = evFun tab (g27hd G_g73 G_g74 L_g27l0) Go.Proofs.Try.f27 (fillT g27tp ls).1 (fillB g27bp (fillT g27tp ls).2).1 k := by kernel_rfl
theorem g27Calls (m : Nat) : (g27h m).CallsOk Go.Proofs.Try.prog := (cok_cons (g73Ok m) (cok_cons (g74Ok m) cok_nil))
theorem g27l0Ok (m : Nat) (α : Type) (st : St) (k : Ex → St → Option α) (r : α) (h : (g27h m).loop 0 st k = some r) :
    ∃ e st', k e st' = some r ∧ CodeS Go.Proofs.Try.prog (.block 0 (.loop (bodyAt Go.Proofs.Try.f27 0))) st e st' :=
  loop_ok (tab := tab) (h := g27h m) (F := fun n ls k => g27l0K (fun m1291 m1292 m1293 v1294 m1296 a1297 m1299 a1300 k1306 v1295 a1298 => g27l0 m1291 m1292 m1293 v1294 m1296 a1297 m1299 a1300 k1306 n v1295 a1298) ls k) tabOk (g27Calls m) mixed (loopsOk_of _ (fun p hp => by rw [show loopsOf (bodyAt Go.Proofs.Try.f27 0) = [] by kernel_rfl] at hp; cases hp))
    (fun _ _ => rfl) (fun n ls k => g27l0Step (g73 m) (g74 m) (g27l0M m) (fun m1291 m1292 m1293 v1294 m1296 a1297 m1299 a1300 k1306 => g27l0 m1291 m1292 m1293 v1294 m1296 a1297 m1299 a1300 k1306 n) ls k) (n := m) h
theorem g27Fn (m : Nat) : FnOk Go.Proofs.Try.prog 27 g27tp g27bp (fun {α} => g27K (g27 (α := α) m)) :=
  fn_ok (tab := tab) (h := g27h m) (fn := Go.Proofs.Try.f27) (F := fun {α} => g27K (g27 (α := α) m)) tabOk (g27Calls m) mixed (by kernel_rfl) (by kernel_rfl) (fun c hc => by
    rw [bodyOf_some hc]
    exact loopsOk_of _ (fun p hp => by
    rw [show loopsOf (bodyOf Go.Proofs.Try.f27) = [(0, bodyAt Go.Proofs.Try.f27 0)] by kernel_rfl] at hp
    simp only [List.mem_cons, List.not_mem_nil, or_false] at hp
    rcases hp with rfl
    exact g27l0Ok m))
    (fun α ls k => g27Main (g73 m) (g74 m) (g27l0M m) ls k)
theorem g27Ok (m : Nat) : RowOk Go.Proofs.Try.prog 27 (fun {α} => rowK g27tp g27bp (g27K (g27 (α := α) m))) := row_of (g27Fn m)

/-! ### g28v4: laws.eqInt64S -/
def g28v4l0b {α : Type}   (a1336 : List Int) (a1337 : List Int) (k1343 : Option α) (k1344 : Option α) (r1345 : Int → Option α) (v1335 : Int) : Option α :=
  cond (decide (v1335 < ((a1336.length : Nat) : Int)))
   (
    if 0 ≤ v1335 ∧ v1335 < (a1336.length : Nat) then
      if v1335.toNat < a1336.length then
        if 0 ≤ v1335 ∧ v1335 < (a1337.length : Nat) then
          if v1335.toNat < a1337.length then
            cond ((List.getD a1336 v1335.toNat 0) != (List.getD a1337 v1335.toNat 0))
             (
              k1343)
             (
              r1345 (IntKind.wrap .i64 (v1335 + (1 : Int))))
          else
            none
        else
          none
      else
        none
    else
      none)
   (
    k1344)
def g28v4l0 {α : Type}   (a1336 : List Int) (a1337 : List Int) (k1343 : Option α) (k1344 : Option α) : Nat → Int → Option α
  | 0 => fun _ => none
  | m + 1 => fun v1335 => g28v4l0b a1336 a1337 k1343 k1344 (g28v4l0 a1336 a1337 k1343 k1344 m) v1335
def g28v4l0M {α : Type} (m : Nat) : (List Int) → (List Int) → (Option α) → (Option α) → Int → Option α :=
  fun a1336 a1337 k1343 k1344 v1335 => g28v4l0 a1336 a1337 k1343 k1344 m v1335
def g28v4l0D : LoopD := { n := 26, low := [0, 1], sl := [0, 1, 5], bl := [0, 1], tp := [(.vl (.sv (.gsl 0 1))), (.vl (.sv (.gsl 1 1))), (.vl (.sv (.int .i64)))], bp := [(false, [(.gro (.int .i64))]), (false, [(.gro (.int .i64))])], xs := [(1, [4]), (2, [])] }
def g28v4l0K {α : Type} (L : (List Int) → (List Int) → (Option α) → (Option α) → Int → Option α) (ls : List Lf) (k : Ex → St → Option α) : Option α :=
  L ((lf ls 1).lst (.int .i64)) ((lf ls 2).lst (.int .i64))
    (k .ret (mkSt 26 [4] [(.vl (.sv (.bool false)))] [0, 1] [(false, [(.gro (.int .i64) ((lf ls 1).lst (.int .i64)))]), (false, [(.gro (.int .i64) ((lf ls 2).lst (.int .i64)))])]))
    (k .normal (mkSt 26 [] [] [0, 1] [(false, [(.gro (.int .i64) ((lf ls 1).lst (.int .i64)))]), (false, [(.gro (.int .i64) ((lf ls 2).lst (.int .i64)))])]))
    (lf ls 0).int
def g28v4b {α : Type}  (L_g28v4l0 : {α : Type} → (List Int) → (List Int) → (Option α) → (Option α) → Int → Option α) (u1332 : List Int) (u1333 : List Int) (k1346 : Bool → Option α) : Option α :=
  cond (((u1332.length : Nat) : Int) != ((u1333.length : Nat) : Int))
   (
    k1346 false)
   (
    L_g28v4l0 u1332 u1333
      (
        k1346 false)
      (
        k1346 true)
      (0 : Int))
def g28v4 {α : Type} (m : Nat) : (List Int) → (List Int) → (Bool → Option α) → Option α :=
  g28v4b (g28v4l0M m)
def g28v4tp : List TP := [(.vl (.sv (.gsl 0 1))), (.vl (.sv (.gsl 1 1)))]
def g28v4bp : List BP := [(false, [(.gro (.int .i64))]), (false, [(.gro (.int .i64))])]
def g28v4K {α : Type} (G : (List Int) → (List Int) → (Bool → Option α) → Option α) (ls : List Lf) (k : TV → List (List Seg) → List (List Seg) → Option α) : Option α :=
  G ((lf ls 0).lst (.int .i64)) ((lf ls 1).lst (.int .i64))
    (fun y0 => k (.vl (.sv (.bool y0))) [[(.gro (.int .i64) ((lf ls 0).lst (.int .i64)))], [(.gro (.int .i64) ((lf ls 1).lst (.int .i64)))]] [])
def g28v4hd  (L_g28v4l0 : {α : Type} → (List Int) → (List Int) → (Option α) → (Option α) → Int → Option α) : Hd where
  call := fun f args Bs k => none
  loop := fun id st k => cond (Nat.beq id 0) (loopH g28v4l0D (g28v4l0K L_g28v4l0) st k) (none)
  ro := fun f => []
def g28v4h (m : Nat) : Hd := g28v4hd (g28v4l0M m)
theorem g28v4l0Step  (L_g28v4l0 : {α : Type} → (List Int) → (List Int) → (Option α) → (Option α) → Int → Option α) {α : Type} (L : (List Int) → (List Int) → (Option α) → (Option α) → Int → Option α) (ls : List Lf) (k : Ex → St → Option α) :
    g28v4l0K (fun a1336 a1337 k1343 k1344 v1335 => g28v4l0b a1336 a1337 k1343 k1344 (L a1336 a1337 k1343 k1344) v1335) ls k = ev tab (g28v4hd L_g28v4l0) (bodyAt Go.Proofs.Try.f28 0) (atHead g28v4l0D ls) (loopK g28v4l0D 0 (loopH g28v4l0D (g28v4l0K L)) k) := by kernel_rfl
theorem g28v4Main  (L_g28v4l0 : {α : Type} → (List Int) → (List Int) → (Option α) → (Option α) → Int → Option α) {α : Type} (ls : List Lf) (k : TV → List (List Seg) → List (List Seg) → Option α) :
    g28v4K (g28v4b L_g28v4l0) ls k = evFun tab (g28v4hd L_g28v4l0) Go.Proofs.Try.f28 (fillT g28v4tp ls).1 (fillB g28v4bp (fillT g28v4tp ls).2).1 k := by kernel_rfl
theorem g28v4Calls (m : Nat) : (g28v4h m).CallsOk Go.Proofs.Try.prog := cok_nil
theorem g28v4l0Ok (m : Nat) (α : Type) (st : St) (k : Ex → St → Option α) (r : α) (h : (g28v4h m).loop 0 st k = some r) :
    ∃ e st', k e st' = some r ∧ CodeS Go.Proofs.Try.prog (.block 0 (.loop (bodyAt Go.Proofs.Try.f28 0))) st e st' :=
  loop_ok (tab := tab) (h := g28v4h m) (F := fun n ls k => g28v4l0K (fun a1336 a1337 k1343 k1344 v1335 => g28v4l0 a1336 a1337 k1343 k1344 n v1335) ls k) tabOk (g28v4Calls m) mixed (loopsOk_of _ (fun p hp => by rw [show loopsOf (bodyAt Go.Proofs.Try.f28 0) = [] by kernel_rfl] at hp; cases hp))
    (fun _ _ => rfl) (fun n ls k => g28v4l0Step (g28v4l0M m) (fun a1336 a1337 k1343 k1344 => g28v4l0 a1336 a1337 k1343 k1344 n) ls k) (n := m) h
theorem g28v4Fn (m : Nat) : FnOk Go.Proofs.Try.prog 28 g28v4tp g28v4bp (fun {α} => g28v4K (g28v4 (α := α) m)) :=
  fn_ok (tab := tab) (h := g28v4h m) (fn := Go.Proofs.Try.f28) (F := fun {α} => g28v4K (g28v4 (α := α) m)) tabOk (g28v4Calls m) mixed (by kernel_rfl) (by kernel_rfl) (fun c hc => by
    rw [bodyOf_some hc]
    exact loopsOk_of _ (fun p hp => by
    rw [show loopsOf (bodyOf Go.Proofs.Try.f28) = [(0, bodyAt Go.Proofs.Try.f28 0)] by kernel_rfl] at hp
    simp only [List.mem_cons, List.not_mem_nil, or_false] at hp
    rcases hp with rfl
    exact g28v4l0Ok m))
    (fun α ls k => g28v4Main (g28v4l0M m) ls k)
theorem g28v4Ok (m : Nat) : RowOk Go.Proofs.Try.prog 28 (fun {α} => rowK g28v4tp g28v4bp (g28v4K (g28v4 (α := α) m))) := row_of (g28v4Fn m)

/-! ### g30v2: laws.markInt64S -/
def g30v2l0b {α : Type}    (k1372 : Int → (List Int) → Option α) (r1373 : Int → Int → (List Int) → Option α) (v1365 : Int) (v1366 : Int) (a1367 : List Int) : Option α :=
  cond (decide (v1366 < ((a1367.length : Nat) : Int)))
   (
    if 0 ≤ v1366 ∧ v1366 < (a1367.length : Nat) then
      if v1366.toNat < a1367.length then
        r1373 (IntKind.wrap .i64 (v1365 + (1 : Int))) (IntKind.wrap .i64 (v1366 + (1 : Int))) (List.set a1367 (v1366.toNat) v1365)
      else
        none
    else
      none)
   (
    k1372 v1365 a1367)
def g30v2l0 {α : Type}    (k1372 : Int → (List Int) → Option α) : Nat → Int → Int → (List Int) → Option α
  | 0 => fun _ _ _ => none
  | m + 1 => fun v1365 v1366 a1367 => g30v2l0b  k1372 (g30v2l0  k1372 m) v1365 v1366 a1367
def g30v2l0M {α : Type} (m : Nat) : (Int → (List Int) → Option α) → Int → Int → (List Int) → Option α :=
  fun  k1372 v1365 v1366 a1367 => g30v2l0  k1372 m v1365 v1366 a1367
def g30v2l0D : LoopD := { n := 19, low := [0], sl := [0, 1, 5], bl := [0], tp := [(.vl (.sv (.gsl 0 1))), (.vl (.sv (.int .i64))), (.vl (.sv (.int .i64)))], bp := [(true, [(.gro (.int .i64))])], xs := [(2, [1])] }
def g30v2l0K {α : Type} (L : (Int → (List Int) → Option α) → Int → Int → (List Int) → Option α) (ls : List Lf) (k : Ex → St → Option α) : Option α :=
  L 
    (fun y0 y1 => k .normal (mkSt 19 [1] [(.vl (.sv (.int .i64 y0)))] [0] [(true, [(.gro (.int .i64) y1)])]))
    (lf ls 0).int (lf ls 1).int ((lf ls 2).lst (.int .i64))
def g30v2b {α : Type}  (L_g30v2l0 : {α : Type} → (Int → (List Int) → Option α) → Int → Int → (List Int) → Option α) (p1363 : Int) (u1364 : List Int) (k1376 : Int → (List Int) → Option α) : Option α :=
  L_g30v2l0
    (fun x1374 l1375 =>
      k1376 x1374 l1375)
    p1363 (0 : Int) u1364
def g30v2 {α : Type} (m : Nat) : Int → (List Int) → (Int → (List Int) → Option α) → Option α :=
  g30v2b (g30v2l0M m)
def g30v2tp : List TP := [(.vl (.sv (.gsl 0 1))), (.vl (.sv (.int .i64)))]
def g30v2bp : List BP := [(true, [(.gro (.int .i64))])]
def g30v2K {α : Type} (G : Int → (List Int) → (Int → (List Int) → Option α) → Option α) (ls : List Lf) (k : TV → List (List Seg) → List (List Seg) → Option α) : Option α :=
  G (lf ls 0).int ((lf ls 1).lst (.int .i64))
    (fun y0 y1 => k (.vl (.sv (.int .i64 y0))) [[(.gro (.int .i64) y1)]] [])
def g30v2hd  (L_g30v2l0 : {α : Type} → (Int → (List Int) → Option α) → Int → Int → (List Int) → Option α) : Hd where
  call := fun f args Bs k => none
  loop := fun id st k => cond (Nat.beq id 0) (loopH g30v2l0D (g30v2l0K L_g30v2l0) st k) (none)
  ro := fun f => []
def g30v2h (m : Nat) : Hd := g30v2hd (g30v2l0M m)
theorem g30v2l0Step  (L_g30v2l0 : {α : Type} → (Int → (List Int) → Option α) → Int → Int → (List Int) → Option α) {α : Type} (L : (Int → (List Int) → Option α) → Int → Int → (List Int) → Option α) (ls : List Lf) (k : Ex → St → Option α) :
    g30v2l0K (fun k1372 v1365 v1366 a1367 => g30v2l0b k1372 (L k1372) v1365 v1366 a1367) ls k = ev tab (g30v2hd L_g30v2l0) (bodyAt Go.Proofs.Try.f30 0) (atHead g30v2l0D ls) (loopK g30v2l0D 0 (loopH g30v2l0D (g30v2l0K L)) k) := by kernel_rfl
theorem g30v2Main  (L_g30v2l0 : {α : Type} → (Int → (List Int) → Option α) → Int → Int → (List Int) → Option α) {α : Type} (ls : List Lf) (k : TV → List (List Seg) → List (List Seg) → Option α) :
    g30v2K (g30v2b L_g30v2l0) ls k = evFun tab (g30v2hd L_g30v2l0) Go.Proofs.Try.f30 (fillT g30v2tp ls).1 (fillB g30v2bp (fillT g30v2tp ls).2).1 k := by kernel_rfl
theorem g30v2Calls (m : Nat) : (g30v2h m).CallsOk Go.Proofs.Try.prog := cok_nil
theorem g30v2l0Ok (m : Nat) (α : Type) (st : St) (k : Ex → St → Option α) (r : α) (h : (g30v2h m).loop 0 st k = some r) :
    ∃ e st', k e st' = some r ∧ CodeS Go.Proofs.Try.prog (.block 0 (.loop (bodyAt Go.Proofs.Try.f30 0))) st e st' :=
  loop_ok (tab := tab) (h := g30v2h m) (F := fun n ls k => g30v2l0K (fun k1372 v1365 v1366 a1367 => g30v2l0 k1372 n v1365 v1366 a1367) ls k) tabOk (g30v2Calls m) mixed (loopsOk_of _ (fun p hp => by rw [show loopsOf (bodyAt Go.Proofs.Try.f30 0) = [] by kernel_rfl] at hp; cases hp))
    (fun _ _ => rfl) (fun n ls k => g30v2l0Step (g30v2l0M m) (fun k1372 => g30v2l0 k1372 n) ls k) (n := m) h
theorem g30v2Fn (m : Nat) : FnOk Go.Proofs.Try.prog 30 g30v2tp g30v2bp (fun {α} => g30v2K (g30v2 (α := α) m)) :=
  fn_ok (tab := tab) (h := g30v2h m) (fn := Go.Proofs.Try.f30) (F := fun {α} => g30v2K (g30v2 (α := α) m)) tabOk (g30v2Calls m) mixed (by kernel_rfl) (by kernel_rfl) (fun c hc => by
    rw [bodyOf_some hc]
    exact loopsOk_of _ (fun p hp => by
    rw [show loopsOf (bodyOf Go.Proofs.Try.f30) = [(0, bodyAt Go.Proofs.Try.f30 0)] by kernel_rfl] at hp
    simp only [List.mem_cons, List.not_mem_nil, or_false] at hp
    rcases hp with rfl
    exact g30v2l0Ok m))
    (fun α ls k => g30v2Main (g30v2l0M m) ls k)
theorem g30v2Ok (m : Nat) : RowOk Go.Proofs.Try.prog 30 (fun {α} => rowK g30v2tp g30v2bp (g30v2K (g30v2 (α := α) m))) := row_of (g30v2Fn m)
end Go.Proofs.Ytobejeiffgehfaa.Sx
