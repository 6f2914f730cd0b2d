/- Functions. Printed by our own sx.py. -/
import Derived.Test.YtcccndkeaichcaaSxV0
namespace Go.Proofs.Ytcccndkeaichcaa.Sx
open Go
set_option linter.unusedVariables false
set_option maxRecDepth 100000
/-! ### g97: spec.l01Mul -/
def g97l2b {α : Type}   (v637 : Int) (c640 : Bool) (a641 : List Int) (c642 : Bool) (a643 : List Int) (c644 : Bool) (a645 : List Int) (k663 : Int → (List Int) → Option α) (r664 : Int → Int → (List Int) → Option α) (v638 : Int) (v639 : Int) (a646 : List Int) : Option α :=
  cond (decide (v639 < (6 : Int)))
   (
    if 0 ≤ v637 ∧ v637 < (6 : Nat) then
      if v637.toNat < 6 then
        if 0 ≤ v639 ∧ v639 < (6 : Nat) then
          if v639.toNat < 6 then
            let x653 : Int := IntKind.wrap .i64 (v637 + v639)
            if 0 ≤ x653 ∧ x653 < (12 : Nat) then
              if x653.toNat < 12 then
                let x657 : Int := IntKind.wrap .u64 ((IntKind.wrap .u64 ((IntKind.wrap .u64 ((IntKind.wrap .u64 (List.getD a641 v637.toNat 0)) * (IntKind.wrap .u64 (List.getD a643 v639.toNat 0)))) + (IntKind.wrap .u64 (List.getD a646 x653.toNat 0)))) + v638)
                let x658 : Int := IntKind.wrap .i64 (v637 + v639)
                if 0 ≤ x658 ∧ x658 < (12 : Nat) then
                  if x658.toNat < 12 then
                    r664 (Int.fdiv x657 (2 ^ 32)) (IntKind.wrap .i64 (v639 + (1 : Int))) (List.set a646 (x658.toNat) (IntKind.wrap .u32 x657))
                  else
                    none
                else
                  none
              else
                none
            else
              none
          else
            none
        else
          none
      else
        none
    else
      none)
   (
    k663 v638 a646)
def g97l2 {α : Type}   (v637 : Int) (c640 : Bool) (a641 : List Int) (c642 : Bool) (a643 : List Int) (c644 : Bool) (a645 : List Int) (k663 : Int → (List Int) → Option α) : Nat → Int → Int → (List Int) → Option α
  | 0 => fun _ _ _ => none
  | m + 1 => fun v638 v639 a646 => g97l2b v637 c640 a641 c642 a643 c644 a645 k663 (g97l2 v637 c640 a641 c642 a643 c644 a645 k663 m) v638 v639 a646
def g97l2M {α : Type} (m : Nat) : Int → Bool → (List Int) → Bool → (List Int) → Bool → (List Int) → (Int → (List Int) → Option α) → Int → Int → (List Int) → Option α :=
  fun v637 c640 a641 c642 a643 c644 a645 k663 v638 v639 a646 => g97l2 v637 c640 a641 c642 a643 c644 a645 k663 m v638 v639 a646
def g97l2D : LoopD := { n := 78, sl := [2, 3, 4, 6, 7, 8, 9], bl := [1002, 1003, 1004, 1006], tp := [(.vl (.sv (.ptr 1002 0))), (.vl (.sv (.ptr 1003 0))), (.vl (.sv (.ptr 1004 0))), (.vl (.sv (.ptr 1006 0))), (.vl (.sv (.int .i64))), (.vl (.sv (.int .u64))), (.vl (.sv (.int .i64)))], bp := [(true, [(.one .bool), (.seq (.int .u32) 6)]), (true, [(.one .bool), (.seq (.int .u32) 6)]), (true, [(.one .bool), (.seq (.int .u32) 6)]), (true, [(.seq (.int .u32) 12)])], xs := [(4, [2, 3, 4, 6, 7, 8], [1002, 1003, 1004, 1006])] }
def g97l2K {α : Type} (L : Int → Bool → (List Int) → Bool → (List Int) → Bool → (List Int) → (Int → (List Int) → Option α) → Int → Int → (List Int) → Option α) (ls : List Lf) (k : Ex → St → Option α) : Option α :=
  L (lf ls 0).int (lf ls 3).bool ((lf ls 4).lst (.int .u32)) (lf ls 5).bool ((lf ls 6).lst (.int .u32)) (lf ls 7).bool ((lf ls 8).lst (.int .u32))
    (fun y1 y8 => k .normal (mkSt 78 [2, 3, 4, 6, 7, 8] [(.vl (.sv (.ptr 1002 0))), (.vl (.sv (.ptr 1003 0))), (.vl (.sv (.ptr 1004 0))), (.vl (.sv (.ptr 1006 0))), (.vl (.sv (.int .i64 (lf ls 0).int))), (.vl (.sv (.int .u64 y1)))] [1002, 1003, 1004, 1006] [(true, [(.one (.bool (lf ls 3).bool)), (.seq (.int .u32) 6 ((lf ls 4).lst (.int .u32)))]), (true, [(.one (.bool (lf ls 5).bool)), (.seq (.int .u32) 6 ((lf ls 6).lst (.int .u32)))]), (true, [(.one (.bool (lf ls 7).bool)), (.seq (.int .u32) 6 ((lf ls 8).lst (.int .u32)))]), (true, [(.seq (.int .u32) 12 y8)])]))
    (lf ls 1).int (lf ls 2).int ((lf ls 9).lst (.int .u32))
def g97l0b {α : Type}  (L_g97l2 : {α : Type} → Int → Bool → (List Int) → Bool → (List Int) → Bool → (List Int) → (Int → (List Int) → Option α) → Int → Int → (List Int) → Option α) (c629 : Bool) (a630 : List Int) (c631 : Bool) (a632 : List Int) (c633 : Bool) (a634 : List Int) (k671 : (List Int) → Option α) (r672 : Int → (List Int) → Option α) (v628 : Int) (a635 : List Int) : Option α :=
  cond (decide (v628 < (6 : Int)))
   (
    L_g97l2 v628 c629 a630 c631 a632 c633 a634
      (fun x665 l666 =>
        let x667 : Int := IntKind.wrap .i64 (v628 + (6 : Int))
        if 0 ≤ x667 ∧ x667 < (12 : Nat) then
          if x667.toNat < 12 then
            r672 (IntKind.wrap .i64 (v628 + (1 : Int))) (List.set l666 (x667.toNat) (IntKind.wrap .u32 x665))
          else
            none
        else
          none)
      (0 : Int) (0 : Int) a635)
   (
    k671 a635)
def g97l0 {α : Type}  (L_g97l2 : {α : Type} → Int → Bool → (List Int) → Bool → (List Int) → Bool → (List Int) → (Int → (List Int) → Option α) → Int → Int → (List Int) → Option α) (c629 : Bool) (a630 : List Int) (c631 : Bool) (a632 : List Int) (c633 : Bool) (a634 : List Int) (k671 : (List Int) → Option α) : Nat → Int → (List Int) → Option α
  | 0 => fun _ _ => none
  | m + 1 => fun v628 a635 => g97l0b L_g97l2 c629 a630 c631 a632 c633 a634 k671 (g97l0 L_g97l2 c629 a630 c631 a632 c633 a634 k671 m) v628 a635
def g97l0M {α : Type} (m : Nat) : Bool → (List Int) → Bool → (List Int) → Bool → (List Int) → ((List Int) → Option α) → Int → (List Int) → Option α :=
  fun c629 a630 c631 a632 c633 a634 k671 v628 a635 => g97l0 (g97l2M m) c629 a630 c631 a632 c633 a634 k671 m v628 a635
def g97l0D : LoopD := { n := 78, sl := [2, 3, 4, 6, 7], bl := [1002, 1003, 1004, 1006], tp := [(.vl (.sv (.ptr 1002 0))), (.vl (.sv (.ptr 1003 0))), (.vl (.sv (.ptr 1004 0))), (.vl (.sv (.ptr 1006 0))), (.vl (.sv (.int .i64)))], bp := [(true, [(.one .bool), (.seq (.int .u32) 6)]), (true, [(.one .bool), (.seq (.int .u32) 6)]), (true, [(.one .bool), (.seq (.int .u32) 6)]), (true, [(.seq (.int .u32) 12)])], xs := [(2, [2, 3, 4, 6], [1002, 1003, 1004, 1006])] }
def g97l0K {α : Type} (L : Bool → (List Int) → Bool → (List Int) → Bool → (List Int) → ((List Int) → Option α) → Int → (List Int) → Option α) (ls : List Lf) (k : Ex → St → Option α) : Option α :=
  L (lf ls 1).bool ((lf ls 2).lst (.int .u32)) (lf ls 3).bool ((lf ls 4).lst (.int .u32)) (lf ls 5).bool ((lf ls 6).lst (.int .u32))
    (fun y6 => k .normal (mkSt 78 [2, 3, 4, 6] [(.vl (.sv (.ptr 1002 0))), (.vl (.sv (.ptr 1003 0))), (.vl (.sv (.ptr 1004 0))), (.vl (.sv (.ptr 1006 0)))] [1002, 1003, 1004, 1006] [(true, [(.one (.bool (lf ls 1).bool)), (.seq (.int .u32) 6 ((lf ls 2).lst (.int .u32)))]), (true, [(.one (.bool (lf ls 3).bool)), (.seq (.int .u32) 6 ((lf ls 4).lst (.int .u32)))]), (true, [(.one (.bool (lf ls 5).bool)), (.seq (.int .u32) 6 ((lf ls 6).lst (.int .u32)))]), (true, [(.seq (.int .u32) 12 y6)])]))
    (lf ls 0).int ((lf ls 7).lst (.int .u32))
def g97l4b {α : Type}   (c675 : Bool) (a676 : List Int) (c677 : Bool) (a678 : List Int) (c679 : Bool) (a680 : List Int) (a681 : List Int) (k690 : (List Int) → Option α) (k691 : (List Int) → Option α) (r692 : Int → (List Int) → Option α) (v674 : Int) (a682 : List Int) : Option α :=
  cond (decide (v674 < (6 : Int)))
   (
    if 0 ≤ v674 ∧ v674 < (12 : Nat) then
      if v674.toNat < 12 then
        if 0 ≤ v674 ∧ v674 < (6 : Nat) then
          if v674.toNat < 6 then
            let x686 : Int := IntKind.wrap .i64 (v674 + (6 : Int))
            if 0 ≤ x686 ∧ x686 < (12 : Nat) then
              if x686.toNat < 12 then
                cond ((List.getD a681 x686.toNat 0) != (0 : Int))
                 (
                  k690 [0, 0, 0, 0, 0, 0])
                 (
                  r692 (IntKind.wrap .i64 (v674 + (1 : Int))) (List.set a682 (v674.toNat) (List.getD a681 v674.toNat 0)))
              else
                none
            else
              none
          else
            none
        else
          none
      else
        none
    else
      none)
   (
    k691 a682)
def g97l4 {α : Type}   (c675 : Bool) (a676 : List Int) (c677 : Bool) (a678 : List Int) (c679 : Bool) (a680 : List Int) (a681 : List Int) (k690 : (List Int) → Option α) (k691 : (List Int) → Option α) : Nat → Int → (List Int) → Option α
  | 0 => fun _ _ => none
  | m + 1 => fun v674 a682 => g97l4b c675 a676 c677 a678 c679 a680 a681 k690 k691 (g97l4 c675 a676 c677 a678 c679 a680 a681 k690 k691 m) v674 a682
def g97l4M {α : Type} (m : Nat) : Bool → (List Int) → Bool → (List Int) → Bool → (List Int) → (List Int) → ((List Int) → Option α) → ((List Int) → Option α) → Int → (List Int) → Option α :=
  fun c675 a676 c677 a678 c679 a680 a681 k690 k691 v674 a682 => g97l4 c675 a676 c677 a678 c679 a680 a681 k690 k691 m v674 a682
def g97l4D : LoopD := { n := 78, sl := [2, 3, 4, 6, 11, 12], bl := [1002, 1003, 1004, 1006, 1011], tp := [(.vl (.sv (.ptr 1002 0))), (.vl (.sv (.ptr 1003 0))), (.vl (.sv (.ptr 1004 0))), (.vl (.sv (.ptr 1006 0))), (.vl (.sv (.ptr 1011 0))), (.vl (.sv (.int .i64)))], bp := [(true, [(.one .bool), (.seq (.int .u32) 6)]), (true, [(.one .bool), (.seq (.int .u32) 6)]), (true, [(.one .bool), (.seq (.int .u32) 6)]), (true, [(.seq (.int .u32) 12)]), (true, [(.seq (.int .u32) 6)])], xs := [(1, [4, 5], [1004]), (6, [2, 3, 4, 11], [1002, 1003, 1004, 1011])] }
def g97l4K {α : Type} (L : Bool → (List Int) → Bool → (List Int) → Bool → (List Int) → (List Int) → ((List Int) → Option α) → ((List Int) → Option α) → Int → (List Int) → Option α) (ls : List Lf) (k : Ex → St → Option α) : Option α :=
  L (lf ls 1).bool ((lf ls 2).lst (.int .u32)) (lf ls 3).bool ((lf ls 4).lst (.int .u32)) (lf ls 5).bool ((lf ls 6).lst (.int .u32)) ((lf ls 7).lst (.int .u32))
    (fun y2 => k .ret (mkSt 78 [4, 5] [(.vl (.sv (.ptr 1004 0))), (.vl (.sv (.int .i64 (3 : Int))))] [1004] [(true, [(.one (.bool false)), (.seq (.int .u32) 6 y2)])]))
    (fun y6 => k .normal (mkSt 78 [2, 3, 4, 11] [(.vl (.sv (.ptr 1002 0))), (.vl (.sv (.ptr 1003 0))), (.vl (.sv (.ptr 1004 0))), (.vl (.sv (.ptr 1011 0)))] [1002, 1003, 1004, 1011] [(true, [(.one (.bool (lf ls 1).bool)), (.seq (.int .u32) 6 ((lf ls 2).lst (.int .u32)))]), (true, [(.one (.bool (lf ls 3).bool)), (.seq (.int .u32) 6 ((lf ls 4).lst (.int .u32)))]), (true, [(.one (.bool (lf ls 5).bool)), (.seq (.int .u32) 6 ((lf ls 6).lst (.int .u32)))]), (true, [(.seq (.int .u32) 6 y6)])]))
    (lf ls 0).int ((lf ls 8).lst (.int .u32))
def g97b {α : Type} (G_g71 : {α : Type} → Bool → (List Int) → (Bool → Option α) → Option α) (L_g97l2 : {α : Type} → Int → Bool → (List Int) → Bool → (List Int) → Bool → (List Int) → (Int → (List Int) → Option α) → Int → Int → (List Int) → Option α) (L_g97l0 : {α : Type} → Bool → (List Int) → Bool → (List Int) → Bool → (List Int) → ((List Int) → Option α) → Int → (List Int) → Option α) (L_g97l4 : {α : Type} → Bool → (List Int) → Bool → (List Int) → Bool → (List Int) → (List Int) → ((List Int) → Option α) → ((List Int) → Option α) → Int → (List Int) → Option α) (q624 : Bool) (u625 : List Int) (q626 : Bool) (u627 : List Int) (k697 : Bool → (List Int) → Int → Option α) : Option α :=
  L_g97l0 q624 u625 q626 u627 false [0, 0, 0, 0, 0, 0]
    (fun l673 =>
      L_g97l4 q624 u625 q626 u627 false [0, 0, 0, 0, 0, 0] l673
        (fun l693 =>
          k697 false l693 (3 : Int))
        (fun l694 =>
          G_g71 (!(q624 == q626)) l694
            (fun b696 =>
              k697 b696 l694 (0 : Int)))
        (0 : Int) [0, 0, 0, 0, 0, 0])
    (0 : Int) [0, 0, 0, 0, 0, 0, 0, 0, 0, 0, 0, 0]
def g97 {α : Type} (m : Nat) : Bool → (List Int) → Bool → (List Int) → (Bool → (List Int) → Int → Option α) → Option α :=
  g97b (g71 m) (g97l2M m) (g97l0M m) (g97l4M m)
def g97tp : List TP := [(.vl (.agg [(.one .bool), (.seq (.int .u32) 6)])), (.vl (.agg [(.one .bool), (.seq (.int .u32) 6)]))]
def g97bp : List BP := []
def g97K {α : Type} (G : Bool → (List Int) → Bool → (List Int) → (Bool → (List Int) → Int → Option α) → Option α) (ls : List Lf) (k : TV → List (List Seg) → List (List Seg) → Option α) : Option α :=
  G (lf ls 0).bool ((lf ls 1).lst (.int .u32)) (lf ls 2).bool ((lf ls 3).lst (.int .u32))
    (fun y0 y1 y2 => k (.tup [(.agg [(.one (.bool y0)), (.seq (.int .u32) 6 y1)]), (.sv (.int .i64 y2))]) [] [])
def g97hd (G_g71 : {α : Type} → Bool → (List Int) → (Bool → Option α) → Option α) (L_g97l2 : {α : Type} → Int → Bool → (List Int) → Bool → (List Int) → Bool → (List Int) → (Int → (List Int) → Option α) → Int → Int → (List Int) → Option α) (L_g97l0 : {α : Type} → Bool → (List Int) → Bool → (List Int) → Bool → (List Int) → ((List Int) → Option α) → Int → (List Int) → Option α) (L_g97l4 : {α : Type} → Bool → (List Int) → Bool → (List Int) → Bool → (List Int) → (List Int) → ((List Int) → Option α) → ((List Int) → Option α) → Int → (List Int) → Option α) : Hd where
  call := fun f args Bs k => cond (Nat.beq f 71) (rowK g71tp g71bp (g71K G_g71) args Bs k) (none)
  loop := fun id st k => cond (Nat.beq id 2) (loopH g97l2D (g97l2K L_g97l2) st k) (cond (Nat.beq id 0) (loopH g97l0D (g97l0K L_g97l0) st k) (cond (Nat.beq id 4) (loopH g97l4D (g97l4K L_g97l4) st k) (none)))
  ro := fun f => []
def g97h (m : Nat) : Hd := g97hd (g71 m) (g97l2M m) (g97l0M m) (g97l4M m)
theorem g97l2Step (G_g71 : {α : Type} → Bool → (List Int) → (Bool → Option α) → Option α) (L_g97l2 : {α : Type} → Int → Bool → (List Int) → Bool → (List Int) → Bool → (List Int) → (Int → (List Int) → Option α) → Int → Int → (List Int) → Option α) (L_g97l0 : {α : Type} → Bool → (List Int) → Bool → (List Int) → Bool → (List Int) → ((List Int) → Option α) → Int → (List Int) → Option α) (L_g97l4 : {α : Type} → Bool → (List Int) → Bool → (List Int) → Bool → (List Int) → (List Int) → ((List Int) → Option α) → ((List Int) → Option α) → Int → (List Int) → Option α) {α : Type} (L : Int → Bool → (List Int) → Bool → (List Int) → Bool → (List Int) → (Int → (List Int) → Option α) → Int → Int → (List Int) → Option α) (ls : List Lf) (k : Ex → St → Option α) :
    g97l2K (fun v637 c640 a641 c642 a643 c644 a645 k663 v638 v639 a646 => g97l2b v637 c640 a641 c642 a643 c644 a645 k663 (L v637 c640 a641 c642 a643 c644 a645 k663) v638 v639 a646) ls k = ev tab (g97hd G_g71 L_g97l2 L_g97l0 L_g97l4) (bodyAt Go.Proofs.Try.f97 2) (atHead g97l2D ls) (loopK g97l2D 2 (loopH g97l2D (g97l2K L)) k) := by kernel_rfl
theorem g97l0Step (G_g71 : {α : Type} → Bool → (List Int) → (Bool → Option α) → Option α) (L_g97l2 : {α : Type} → Int → Bool → (List Int) → Bool → (List Int) → Bool → (List Int) → (Int → (List Int) → Option α) → Int → Int → (List Int) → Option α) (L_g97l0 : {α : Type} → Bool → (List Int) → Bool → (List Int) → Bool → (List Int) → ((List Int) → Option α) → Int → (List Int) → Option α) (L_g97l4 : {α : Type} → Bool → (List Int) → Bool → (List Int) → Bool → (List Int) → (List Int) → ((List Int) → Option α) → ((List Int) → Option α) → Int → (List Int) → Option α) {α : Type} (L : Bool → (List Int) → Bool → (List Int) → Bool → (List Int) → ((List Int) → Option α) → Int → (List Int) → Option α) (ls : List Lf) (k : Ex → St → Option α) :
    g97l0K (fun c629 a630 c631 a632 c633 a634 k671 v628 a635 => g97l0b L_g97l2 c629 a630 c631 a632 c633 a634 k671 (L c629 a630 c631 a632 c633 a634 k671) v628 a635) ls k = ev tab (g97hd G_g71 L_g97l2 L_g97l0 L_g97l4) (bodyAt Go.Proofs.Try.f97 0) (atHead g97l0D ls) (loopK g97l0D 0 (loopH g97l0D (g97l0K L)) k) := by kernel_rfl
theorem g97l4Step (G_g71 : {α : Type} → Bool → (List Int) → (Bool → Option α) → Option α) (L_g97l2 : {α : Type} → Int → Bool → (List Int) → Bool → (List Int) → Bool → (List Int) → (Int → (List Int) → Option α) → Int → Int → (List Int) → Option α) (L_g97l0 : {α : Type} → Bool → (List Int) → Bool → (List Int) → Bool → (List Int) → ((List Int) → Option α) → Int → (List Int) → Option α) (L_g97l4 : {α : Type} → Bool → (List Int) → Bool → (List Int) → Bool → (List Int) → (List Int) → ((List Int) → Option α) → ((List Int) → Option α) → Int → (List Int) → Option α) {α : Type} (L : Bool → (List Int) → Bool → (List Int) → Bool → (List Int) → (List Int) → ((List Int) → Option α) → ((List Int) → Option α) → Int → (List Int) → Option α) (ls : List Lf) (k : Ex → St → Option α) :
    g97l4K (fun c675 a676 c677 a678 c679 a680 a681 k690 k691 v674 a682 => g97l4b c675 a676 c677 a678 c679 a680 a681 k690 k691 (L c675 a676 c677 a678 c679 a680 a681 k690 k691) v674 a682) ls k = ev tab (g97hd G_g71 L_g97l2 L_g97l0 L_g97l4) (bodyAt Go.Proofs.Try.f97 4) (atHead g97l4D ls) (loopK g97l4D 4 (loopH g97l4D (g97l4K L)) k) := by kernel_rfl
theorem g97Main (G_g71 : {α : Type} → Bool → (List Int) → (Bool → Option α) → Option α) (L_g97l2 : {α : Type} → Int → Bool → (List Int) → Bool → (List Int) → Bool → (List Int) → (Int → (List Int) → Option α) → Int → Int → (List Int) → Option α) (L_g97l0 : {α : Type} → Bool → (List Int) → Bool → (List Int) → Bool → (List Int) → ((List Int) → Option α) → Int → (List Int) → Option α) (L_g97l4 : {α : Type} → Bool → (List Int) → Bool → (List Int) → Bool → (List Int) → (List Int) → ((List Int) → Option α) → ((List Int) → Option α) → Int → (List Int) → Option α) {α : Type} (ls : List Lf) (k : TV → List (List Seg) → List (List Seg) → Option α) :
    g97K (g97b G_g71 L_g97l2 L_g97l0 L_g97l4) ls k = evFun tab (g97hd G_g71 L_g97l2 L_g97l0 L_g97l4) Go.Proofs.Try.f97 (fillT g97tp ls).1 (fillB g97bp (fillT g97tp ls).2).1 k := by kernel_rfl
theorem g97Calls (m : Nat) : (g97h m).CallsOk Go.Proofs.Try.prog := (cok_cons (g71Ok m) cok_nil)
theorem g97l2Ok (m : Nat) (α : Type) (st : St) (k : Ex → St → Option α) (r : α) (h : (g97h m).loop 2 st k = some r) :
    ∃ e st', k e st' = some r ∧ CodeS Go.Proofs.Try.prog (.block 2 (.loop (bodyAt Go.Proofs.Try.f97 2))) st e st' :=
  loop_ok (tab := tab) (h := g97h m) (F := fun n ls k => g97l2K (fun v637 c640 a641 c642 a643 c644 a645 k663 v638 v639 a646 => g97l2 v637 c640 a641 c642 a643 c644 a645 k663 n v638 v639 a646) ls k) tabOk (g97Calls m) mixed (loopsOk_of _ (fun p hp => by rw [show loopsOf (bodyAt Go.Proofs.Try.f97 2) = [] by kernel_rfl] at hp; cases hp))
    (fun _ _ => rfl) (fun n ls k => g97l2Step (g71 m) (g97l2M m) (g97l0M m) (g97l4M m) (fun v637 c640 a641 c642 a643 c644 a645 k663 => g97l2 v637 c640 a641 c642 a643 c644 a645 k663 n) ls k) (n := m) h
theorem g97l0Ok (m : Nat) (α : Type) (st : St) (k : Ex → St → Option α) (r : α) (h : (g97h m).loop 0 st k = some r) :
    ∃ e st', k e st' = some r ∧ CodeS Go.Proofs.Try.prog (.block 0 (.loop (bodyAt Go.Proofs.Try.f97 0))) st e st' :=
  loop_ok (tab := tab) (h := g97h m) (F := fun n ls k => g97l0K (fun c629 a630 c631 a632 c633 a634 k671 v628 a635 => g97l0 (g97l2M m) c629 a630 c631 a632 c633 a634 k671 n v628 a635) ls k) tabOk (g97Calls m) mixed (loopsOk_of _ (fun p hp => by
    rw [show loopsOf (bodyAt Go.Proofs.Try.f97 0) = [(2, bodyAt Go.Proofs.Try.f97 2)] by kernel_rfl] at hp
    simp only [List.mem_cons, List.not_mem_nil, or_false] at hp
    rcases hp with rfl
    exact g97l2Ok m))
    (fun _ _ => rfl) (fun n ls k => g97l0Step (g71 m) (g97l2M m) (g97l0M m) (g97l4M m) (fun c629 a630 c631 a632 c633 a634 k671 => g97l0 (g97l2M m) c629 a630 c631 a632 c633 a634 k671 n) ls k) (n := m) h
theorem g97l4Ok (m : Nat) (α : Type) (st : St) (k : Ex → St → Option α) (r : α) (h : (g97h m).loop 4 st k = some r) :
    ∃ e st', k e st' = some r ∧ CodeS Go.Proofs.Try.prog (.block 4 (.loop (bodyAt Go.Proofs.Try.f97 4))) st e st' :=
  loop_ok (tab := tab) (h := g97h m) (F := fun n ls k => g97l4K (fun c675 a676 c677 a678 c679 a680 a681 k690 k691 v674 a682 => g97l4 c675 a676 c677 a678 c679 a680 a681 k690 k691 n v674 a682) ls k) tabOk (g97Calls m) mixed (loopsOk_of _ (fun p hp => by rw [show loopsOf (bodyAt Go.Proofs.Try.f97 4) = [] by kernel_rfl] at hp; cases hp))
    (fun _ _ => rfl) (fun n ls k => g97l4Step (g71 m) (g97l2M m) (g97l0M m) (g97l4M m) (fun c675 a676 c677 a678 c679 a680 a681 k690 k691 => g97l4 c675 a676 c677 a678 c679 a680 a681 k690 k691 n) ls k) (n := m) h
theorem g97Fn (m : Nat) : FnOk Go.Proofs.Try.prog 97 g97tp g97bp (fun {α} => g97K (g97 (α := α) m)) :=
  fn_ok (tab := tab) (h := g97h m) (fn := Go.Proofs.Try.f97) (F := fun {α} => g97K (g97 (α := α) m)) tabOk (g97Calls m) mixed (by kernel_rfl) (by kernel_rfl) (fun c hc => by
    rw [bodyOf_some hc]
    exact loopsOk_of _ (fun p hp => by
    rw [show loopsOf (bodyOf Go.Proofs.Try.f97) = [(0, bodyAt Go.Proofs.Try.f97 0), (4, bodyAt Go.Proofs.Try.f97 4)] by kernel_rfl] at hp
    simp only [List.mem_cons, List.not_mem_nil, or_false] at hp
    rcases hp with rfl | rfl
    · exact g97l0Ok m
    · exact g97l4Ok m))
    (fun α ls k => g97Main (g71 m) (g97l2M m) (g97l0M m) (g97l4M m) ls k)
theorem g97Ok (m : Nat) : RowOk Go.Proofs.Try.prog 97 (fun {α} => rowK g97tp g97bp (g97K (g97 (α := α) m))) := row_of (g97Fn m)

/-! ### g55: spec.MulWides -/
def g55b {α : Type} (G_g64 : {α : Type} → Bool → (List Int) → (Bool → Option α) → Option α) (G_g97 : {α : Type} → Bool → (List Int) → Bool → (List Int) → (Bool → (List Int) → Int → Option α) → Option α)  (q616 : Bool) (u617 : List Int) (q618 : Bool) (u619 : List Int) (k701 : Bool → (List Int) → Int → Option α) : Option α :=
  G_g64 q616 u617
    (fun b620 =>
      cond (!b620)
       (
        k701 false [0, 0, 0, 0, 0, 0] (1 : Int))
       (
        G_g64 q618 u619
          (fun b622 =>
            cond (!b622)
             (
              k701 false [0, 0, 0, 0, 0, 0] (1 : Int))
             (
              G_g97 q616 u617 q618 u619
                (fun b698 l699 x700 =>
                  k701 b698 l699 x700)))))
def g55 {α : Type} (m : Nat) : Bool → (List Int) → Bool → (List Int) → (Bool → (List Int) → Int → Option α) → Option α :=
  g55b (g64 m) (g97 m)
def g55tp : List TP := [(.vl (.agg [(.one .bool), (.seq (.int .u32) 6)])), (.vl (.agg [(.one .bool), (.seq (.int .u32) 6)]))]
def g55bp : List BP := []
def g55K {α : Type} (G : Bool → (List Int) → Bool → (List Int) → (Bool → (List Int) → Int → Option α) → Option α) (ls : List Lf) (k : TV → List (List Seg) → List (List Seg) → Option α) : Option α :=
  G (lf ls 0).bool ((lf ls 1).lst (.int .u32)) (lf ls 2).bool ((lf ls 3).lst (.int .u32))
    (fun y0 y1 y2 => k (.tup [(.agg [(.one (.bool y0)), (.seq (.int .u32) 6 y1)]), (.sv (.int .i64 y2))]) [] [])
def g55hd (G_g64 : {α : Type} → Bool → (List Int) → (Bool → Option α) → Option α) (G_g97 : {α : Type} → Bool → (List Int) → Bool → (List Int) → (Bool → (List Int) → Int → Option α) → Option α)  : Hd where
  call := fun f args Bs k => cond (Nat.beq f 64) (rowK g64tp g64bp (g64K G_g64) args Bs k) (cond (Nat.beq f 97) (rowK g97tp g97bp (g97K G_g97) args Bs k) (none))
  loop := fun id st k => none
  ro := fun f => cond (Nat.beq f 64) [0] ([])
def g55h (m : Nat) : Hd := g55hd (g64 m) (g97 m)
theorem g55Main (G_g64 : {α : Type} → Bool → (List Int) → (Bool → Option α) → Option α) (G_g97 : {α : Type} → Bool → (List Int) → Bool → (List Int) → (Bool → (List Int) → Int → Option α) → Option α)  {α : Type} (ls : List Lf) (k : TV → List (List Seg) → List (List Seg) → Option α) :
    g55K (g55b G_g64 G_g97) ls k = evFun tab (g55hd G_g64 G_g97) Go.Proofs.Try.f55 (fillT g55tp ls).1 (fillB g55bp (fillT g55tp ls).2).1 k := by kernel_rfl
theorem g55Calls (m : Nat) : (g55h m).CallsOk Go.Proofs.Try.prog := (cok_cons (g64Ok m) (cok_cons (g97Ok m) cok_nil))
theorem g55Fn (m : Nat) : FnOk Go.Proofs.Try.prog 55 g55tp g55bp (fun {α} => g55K (g55 (α := α) m)) :=
  fn_ok (tab := tab) (h := g55h m) (fn := Go.Proofs.Try.f55) (F := fun {α} => g55K (g55 (α := α) m)) tabOk (g55Calls m) mixed (by kernel_rfl) (by kernel_rfl) (fun c hc => by
    rw [bodyOf_some hc]
    exact loopsOk_of _ (fun p hp => by rw [show loopsOf (bodyOf Go.Proofs.Try.f55) = [] by kernel_rfl] at hp; cases hp))
    (fun α ls k => g55Main (g64 m) (g97 m) ls k)
theorem g55Ok (m : Nat) : RowOk Go.Proofs.Try.prog 55 (fun {α} => rowK g55tp g55bp (g55K (g55 (α := α) m))) := row_of (g55Fn m)

/-! ### g114: (impl.size).times -/
def g114l2b {α : Type}   (v729 : Int) (v730 : Int) (a732 : List Int) (v733 : Int) (a734 : List Int) (a736 : List Int) (a737 : List Int) (k754 : Int → (List Int) → Option α) (r755 : Int → Int → (List Int) → Option α) (v731 : Int) (v735 : Int) (a738 : List Int) : Option α :=
  cond (decide (v735 < (6 : Int)))
   (
    if 0 ≤ v735 ∧ v735 < (6 : Nat) then
      let x744 : Int := IntKind.wrap .i64 (v729 + v735)
      if 0 ≤ x744 ∧ x744 < (12 : Nat) then
        if x744.toNat < 12 then
          let x748 : Int := IntKind.wrap .u64 (v731 + (IntKind.wrap .u64 ((IntKind.wrap .u64 ((IntKind.wrap .u64 v730) * (IntKind.wrap .u64 (List.getD a734 v735.toNat 0)))) + (IntKind.wrap .u64 (List.getD a738 x744.toNat 0)))))
          let x749 : Int := IntKind.wrap .i64 (v729 + v735)
          if 0 ≤ x749 ∧ x749 < (12 : Nat) then
            if x749.toNat < 12 then
              r755 (Int.fdiv x748 (2 ^ 32)) (IntKind.wrap .i64 (v735 + (1 : Int))) (List.set a738 (x749.toNat) (IntKind.wrap .u32 x748))
            else
              none
          else
            none
        else
          none
      else
        none
    else
      none)
   (
    k754 v731 a738)
def g114l2 {α : Type}   (v729 : Int) (v730 : Int) (a732 : List Int) (v733 : Int) (a734 : List Int) (a736 : List Int) (a737 : List Int) (k754 : Int → (List Int) → Option α) : Nat → Int → Int → (List Int) → Option α
  | 0 => fun _ _ _ => none
  | m + 1 => fun v731 v735 a738 => g114l2b v729 v730 a732 v733 a734 a736 a737 k754 (g114l2 v729 v730 a732 v733 a734 a736 a737 k754 m) v731 v735 a738
def g114l2M {α : Type} (m : Nat) : Int → Int → (List Int) → Int → (List Int) → (List Int) → (List Int) → (Int → (List Int) → Option α) → Int → Int → (List Int) → Option α :=
  fun v729 v730 a732 v733 a734 a736 a737 k754 v731 v735 a738 => g114l2 v729 v730 a732 v733 a734 a736 a737 k754 m v731 v735 a738
def g114l2D : LoopD := { n := 66, sl := [3, 4, 6, 7, 8, 9, 14, 15, 19, 20], bl := [1003, 1004, 1006], tp := [(.vl (.sv (.ptr 1003 0))), (.vl (.sv (.ptr 1004 0))), (.vl (.sv (.ptr 1006 0))), (.vl (.sv (.int .i64))), (.vl (.sv (.int .u32))), (.vl (.sv (.int .u64))), (.vl (.agg [(.seq (.int .u32) 6)])), (.vl (.sv (.int .i64))), (.vl (.agg [(.seq (.int .u32) 6)])), (.vl (.sv (.int .i64)))], bp := [(true, [(.seq (.int .u32) 6)]), (true, [(.seq (.int .u32) 6)]), (true, [(.seq (.int .u32) 12)])], xs := [(4, [3, 4, 6, 7, 9, 14, 15], [1003, 1004, 1006])] }
def g114l2K {α : Type} (L : Int → Int → (List Int) → Int → (List Int) → (List Int) → (List Int) → (Int → (List Int) → Option α) → Int → Int → (List Int) → Option α) (ls : List Lf) (k : Ex → St → Option α) : Option α :=
  L (lf ls 0).int (lf ls 1).int ((lf ls 3).lst (.int .u32)) (lf ls 4).int ((lf ls 5).lst (.int .u32)) ((lf ls 7).lst (.int .u32)) ((lf ls 8).lst (.int .u32))
    (fun y1 y6 => k .normal (mkSt 66 [3, 4, 6, 7, 9, 14, 15] [(.vl (.sv (.ptr 1003 0))), (.vl (.sv (.ptr 1004 0))), (.vl (.sv (.ptr 1006 0))), (.vl (.sv (.int .i64 (lf ls 0).int))), (.vl (.sv (.int .u64 y1))), (.vl (.agg [(.seq (.int .u32) 6 ((lf ls 3).lst (.int .u32)))])), (.vl (.sv (.int .i64 (lf ls 4).int)))] [1003, 1004, 1006] [(true, [(.seq (.int .u32) 6 ((lf ls 7).lst (.int .u32)))]), (true, [(.seq (.int .u32) 6 ((lf ls 8).lst (.int .u32)))]), (true, [(.seq (.int .u32) 12 y6)])]))
    (lf ls 2).int (lf ls 6).int ((lf ls 9).lst (.int .u32))
def g114l0b {α : Type}  (L_g114l2 : {α : Type} → Int → Int → (List Int) → Int → (List Int) → (List Int) → (List Int) → (Int → (List Int) → Option α) → Int → Int → (List Int) → Option α) (a722 : List Int) (a724 : List Int) (a725 : List Int) (k762 : (List Int) → Option α) (r763 : Int → (List Int) → Option α) (v723 : Int) (a726 : List Int) : Option α :=
  cond (decide (v723 < (6 : Int)))
   (
    if 0 ≤ v723 ∧ v723 < (6 : Nat) then
      L_g114l2 v723 (List.getD a722 v723.toNat 0) a722 v723 a724 a724 a725
        (fun x756 l757 =>
          let x758 : Int := IntKind.wrap .i64 (v723 + (6 : Int))
          if 0 ≤ x758 ∧ x758 < (12 : Nat) then
            if x758.toNat < 12 then
              r763 (IntKind.wrap .i64 (v723 + (1 : Int))) (List.set l757 (x758.toNat) (IntKind.wrap .u32 x756))
            else
              none
          else
            none)
        (0 : Int) (0 : Int) a726
    else
      none)
   (
    k762 a726)
def g114l0 {α : Type}  (L_g114l2 : {α : Type} → Int → Int → (List Int) → Int → (List Int) → (List Int) → (List Int) → (Int → (List Int) → Option α) → Int → Int → (List Int) → Option α) (a722 : List Int) (a724 : List Int) (a725 : List Int) (k762 : (List Int) → Option α) : Nat → Int → (List Int) → Option α
  | 0 => fun _ _ => none
  | m + 1 => fun v723 a726 => g114l0b L_g114l2 a722 a724 a725 k762 (g114l0 L_g114l2 a722 a724 a725 k762 m) v723 a726
def g114l0M {α : Type} (m : Nat) : (List Int) → (List Int) → (List Int) → ((List Int) → Option α) → Int → (List Int) → Option α :=
  fun a722 a724 a725 k762 v723 a726 => g114l0 (g114l2M m) a722 a724 a725 k762 m v723 a726
def g114l0D : LoopD := { n := 66, sl := [3, 4, 6, 14, 15], bl := [1003, 1004, 1006], tp := [(.vl (.sv (.ptr 1003 0))), (.vl (.sv (.ptr 1004 0))), (.vl (.sv (.ptr 1006 0))), (.vl (.agg [(.seq (.int .u32) 6)])), (.vl (.sv (.int .i64)))], bp := [(true, [(.seq (.int .u32) 6)]), (true, [(.seq (.int .u32) 6)]), (true, [(.seq (.int .u32) 12)])], xs := [(2, [4, 6], [1004, 1006])] }
def g114l0K {α : Type} (L : (List Int) → (List Int) → (List Int) → ((List Int) → Option α) → Int → (List Int) → Option α) (ls : List Lf) (k : Ex → St → Option α) : Option α :=
  L ((lf ls 0).lst (.int .u32)) ((lf ls 2).lst (.int .u32)) ((lf ls 3).lst (.int .u32))
    (fun y1 => k .normal (mkSt 66 [4, 6] [(.vl (.sv (.ptr 1004 0))), (.vl (.sv (.ptr 1006 0)))] [1004, 1006] [(true, [(.seq (.int .u32) 6 ((lf ls 3).lst (.int .u32)))]), (true, [(.seq (.int .u32) 12 y1)])]))
    (lf ls 1).int ((lf ls 4).lst (.int .u32))
def g114l4b {α : Type}   (m765 : Nat) (m766 : Nat) (m767 : Nat) (v768 : Int) (a770 : List Int) (a771 : List Int) (k776 : (List Int) → Option α) (k777 : Option α) (r778 : Int → Option α) (v769 : Int) : Option α :=
  cond (decide (v769 < v768))
   (
    if 0 ≤ v769 ∧ v769 < (m766 : Nat) then
      if (m765 + v769.toNat) < 12 then
        cond ((List.getD a771 (m765 + v769.toNat) 0) != (0 : Int))
         (
          k776 [0, 0, 0, 0, 0, 0])
         (
          r778 (IntKind.wrap .i64 (v769 + (1 : Int))))
      else
        none
    else
      none)
   (
    k777)
def g114l4 {α : Type}   (m765 : Nat) (m766 : Nat) (m767 : Nat) (v768 : Int) (a770 : List Int) (a771 : List Int) (k776 : (List Int) → Option α) (k777 : Option α) : Nat → Int → Option α
  | 0 => fun _ => none
  | m + 1 => fun v769 => g114l4b m765 m766 m767 v768 a770 a771 k776 k777 (g114l4 m765 m766 m767 v768 a770 a771 k776 k777 m) v769
def g114l4M {α : Type} (m : Nat) : Nat → Nat → Nat → Int → (List Int) → (List Int) → ((List Int) → Option α) → (Option α) → Int → Option α :=
  fun m765 m766 m767 v768 a770 a771 k776 k777 v769 => g114l4 m765 m766 m767 v768 a770 a771 k776 k777 m v769
def g114l4D : LoopD := { n := 66, sl := [4, 6, 53, 54, 55], bl := [1004, 1006], tp := [(.vl (.sv (.ptr 1004 0))), (.vl (.sv (.ptr 1006 0))), (.vl (.sv (.slc 1006 0 1))), (.vl (.sv (.int .i64))), (.vl (.sv (.int .i64)))], bp := [(true, [(.seq (.int .u32) 6)]), (true, [(.seq (.int .u32) 12)])], xs := [(1, [4, 5], [1004]), (6, [4, 6], [1004, 1006])] }
def g114l4K {α : Type} (L : Nat → Nat → Nat → Int → (List Int) → (List Int) → ((List Int) → Option α) → (Option α) → Int → Option α) (ls : List Lf) (k : Ex → St → Option α) : Option α :=
  L (lf ls 0).nat (lf ls 1).nat (lf ls 2).nat (lf ls 3).int ((lf ls 5).lst (.int .u32)) ((lf ls 6).lst (.int .u32))
    (fun y1 => k .ret (mkSt 66 [4, 5] [(.vl (.sv (.ptr 1004 0))), (.vl (.sv (.bool true)))] [1004] [(true, [(.seq (.int .u32) 6 y1)])]))
    (k .normal (mkSt 66 [4, 6] [(.vl (.sv (.ptr 1004 0))), (.vl (.sv (.ptr 1006 0)))] [1004, 1006] [(true, [(.seq (.int .u32) 6 ((lf ls 5).lst (.int .u32)))]), (true, [(.seq (.int .u32) 12 ((lf ls 6).lst (.int .u32)))])]))
    (lf ls 4).int
def g114b {α : Type}  (L_g114l2 : {α : Type} → Int → Int → (List Int) → Int → (List Int) → (List Int) → (List Int) → (Int → (List Int) → Option α) → Int → Int → (List Int) → Option α) (L_g114l0 : {α : Type} → (List Int) → (List Int) → (List Int) → ((List Int) → Option α) → Int → (List Int) → Option α) (L_g114l4 : {α : Type} → Nat → Nat → Nat → Int → (List Int) → (List Int) → ((List Int) → Option α) → (Option α) → Int → Option α) (u720 : List Int) (u721 : List Int) (k781 : (List Int) → Bool → Option α) : Option α :=
  L_g114l0 u720 u721 [0, 0, 0, 0, 0, 0]
    (fun l764 =>
      L_g114l4 6 6 6 (6 : Int) [0, 0, 0, 0, 0, 0] l764
        (fun l779 =>
          k781 l779 true)
        (
          k781 (List.take 6 (List.drop 0 l764)) false)
        (0 : Int))
    (0 : Int) [0, 0, 0, 0, 0, 0, 0, 0, 0, 0, 0, 0]
def g114 {α : Type} (m : Nat) : (List Int) → (List Int) → ((List Int) → Bool → Option α) → Option α :=
  g114b (g114l2M m) (g114l0M m) (g114l4M m)
def g114tp : List TP := [(.vl (.agg [(.seq (.int .u32) 6)])), (.vl (.agg [(.seq (.int .u32) 6)]))]
def g114bp : List BP := []
def g114K {α : Type} (G : (List Int) → (List Int) → ((List Int) → Bool → Option α) → Option α) (ls : List Lf) (k : TV → List (List Seg) → List (List Seg) → Option α) : Option α :=
  G ((lf ls 0).lst (.int .u32)) ((lf ls 1).lst (.int .u32))
    (fun y0 y1 => k (.tup [(.agg [(.seq (.int .u32) 6 y0)]), (.sv (.bool y1))]) [] [])
def g114hd  (L_g114l2 : {α : Type} → Int → Int → (List Int) → Int → (List Int) → (List Int) → (List Int) → (Int → (List Int) → Option α) → Int → Int → (List Int) → Option α) (L_g114l0 : {α : Type} → (List Int) → (List Int) → (List Int) → ((List Int) → Option α) → Int → (List Int) → Option α) (L_g114l4 : {α : Type} → Nat → Nat → Nat → Int → (List Int) → (List Int) → ((List Int) → Option α) → (Option α) → Int → Option α) : Hd where
  call := fun f args Bs k => none
  loop := fun id st k => cond (Nat.beq id 2) (loopH g114l2D (g114l2K L_g114l2) st k) (cond (Nat.beq id 0) (loopH g114l0D (g114l0K L_g114l0) st k) (cond (Nat.beq id 4) (loopH g114l4D (g114l4K L_g114l4) st k) (none)))
  ro := fun f => []
def g114h (m : Nat) : Hd := g114hd (g114l2M m) (g114l0M m) (g114l4M m)
theorem g114l2Step  (L_g114l2 : {α : Type} → Int → Int → (List Int) → Int → (List Int) → (List Int) → (List Int) → (Int → (List Int) → Option α) → Int → Int → (List Int) → Option α) (L_g114l0 : {α : Type} → (List Int) → (List Int) → (List Int) → ((List Int) → Option α) → Int → (List Int) → Option α) (L_g114l4 : {α : Type} → Nat → Nat → Nat → Int → (List Int) → (List Int) → ((List Int) → Option α) → (Option α) → Int → Option α) {α : Type} (L : Int → Int → (List Int) → Int → (List Int) → (List Int) → (List Int) → (Int → (List Int) → Option α) → Int → Int → (List Int) → Option α) (ls : List Lf) (k : Ex → St → Option α) :
    g114l2K (fun v729 v730 a732 v733 a734 a736 a737 k754 v731 v735 a738 => g114l2b v729 v730 a732 v733 a734 a736 a737 k754 (L v729 v730 a732 v733 a734 a736 a737 k754) v731 v735 a738) ls k = ev tab (g114hd L_g114l2 L_g114l0 L_g114l4) (bodyAt Go.Proofs.Try.f114 2) (atHead g114l2D ls) (loopK g114l2D 2 (loopH g114l2D (g114l2K L)) k) := by kernel_rfl
theorem g114l0Step  (L_g114l2 : {α : Type} → Int → Int → (List Int) → Int → (List Int) → (List Int) → (List Int) → (Int → (List Int) → Option α) → Int → Int → (List Int) → Option α) (L_g114l0 : {α : Type} → (List Int) → (List Int) → (List Int) → ((List Int) → Option α) → Int → (List Int) → Option α) (L_g114l4 : {α : Type} → Nat → Nat → Nat → Int → (List Int) → (List Int) → ((List Int) → Option α) → (Option α) → Int → Option α) {α : Type} (L : (List Int) → (List Int) → (List Int) → ((List Int) → Option α) → Int → (List Int) → Option α) (ls : List Lf) (k : Ex → St → Option α) :
    g114l0K (fun a722 a724 a725 k762 v723 a726 => g114l0b L_g114l2 a722 a724 a725 k762 (L a722 a724 a725 k762) v723 a726) ls k = ev tab (g114hd L_g114l2 L_g114l0 L_g114l4) (bodyAt Go.Proofs.Try.f114 0) (atHead g114l0D ls) (loopK g114l0D 0 (loopH g114l0D (g114l0K L)) k) := by kernel_rfl
theorem g114l4Step  (L_g114l2 : {α : Type} → Int → Int → (List Int) → Int → (List Int) → (List Int) → (List Int) → (Int → (List Int) → Option α) → Int → Int → (List Int) → Option α) (L_g114l0 : {α : Type} → (List Int) → (List Int) → (List Int) → ((List Int) → Option α) → Int → (List Int) → Option α) (L_g114l4 : {α : Type} → Nat → Nat → Nat → Int → (List Int) → (List Int) → ((List Int) → Option α) → (Option α) → Int → Option α) {α : Type} (L : Nat → Nat → Nat → Int → (List Int) → (List Int) → ((List Int) → Option α) → (Option α) → Int → Option α) (ls : List Lf) (k : Ex → St → Option α) :
    g114l4K (fun m765 m766 m767 v768 a770 a771 k776 k777 v769 => g114l4b m765 m766 m767 v768 a770 a771 k776 k777 (L m765 m766 m767 v768 a770 a771 k776 k777) v769) ls k = ev tab (g114hd L_g114l2 L_g114l0 L_g114l4) (bodyAt Go.Proofs.Try.f114 4) (atHead g114l4D ls) (loopK g114l4D 4 (loopH g114l4D (g114l4K L)) k) := by kernel_rfl
theorem g114Main  (L_g114l2 : {α : Type} → Int → Int → (List Int) → Int → (List Int) → (List Int) → (List Int) → (Int → (List Int) → Option α) → Int → Int → (List Int) → Option α) (L_g114l0 : {α : Type} → (List Int) → (List Int) → (List Int) → ((List Int) → Option α) → Int → (List Int) → Option α) (L_g114l4 : {α : Type} → Nat → Nat → Nat → Int → (List Int) → (List Int) → ((List Int) → Option α) → (Option α) → Int → Option α) {α : Type} (ls : List Lf) (k : TV → List (List Seg) → List (List Seg) → Option α) :
    g114K (g114b L_g114l2 L_g114l0 L_g114l4) ls k = evFun tab (g114hd L_g114l2 L_g114l0 L_g114l4) Go.Proofs.Try.f114 (fillT g114tp ls).1 (fillB g114bp (fillT g114tp ls).2).1 k := by kernel_rfl
theorem g114Calls (m : Nat) : (g114h m).CallsOk Go.Proofs.Try.prog := cok_nil
theorem g114l2Ok (m : Nat) (α : Type) (st : St) (k : Ex → St → Option α) (r : α) (h : (g114h m).loop 2 st k = some r) :
    ∃ e st', k e st' = some r ∧ CodeS Go.Proofs.Try.prog (.block 2 (.loop (bodyAt Go.Proofs.Try.f114 2))) st e st' :=
  loop_ok (tab := tab) (h := g114h m) (F := fun n ls k => g114l2K (fun v729 v730 a732 v733 a734 a736 a737 k754 v731 v735 a738 => g114l2 v729 v730 a732 v733 a734 a736 a737 k754 n v731 v735 a738) ls k) tabOk (g114Calls m) mixed (loopsOk_of _ (fun p hp => by rw [show loopsOf (bodyAt Go.Proofs.Try.f114 2) = [] by kernel_rfl] at hp; cases hp))
    (fun _ _ => rfl) (fun n ls k => g114l2Step (g114l2M m) (g114l0M m) (g114l4M m) (fun v729 v730 a732 v733 a734 a736 a737 k754 => g114l2 v729 v730 a732 v733 a734 a736 a737 k754 n) ls k) (n := m) h
theorem g114l0Ok (m : Nat) (α : Type) (st : St) (k : Ex → St → Option α) (r : α) (h : (g114h m).loop 0 st k = some r) :
    ∃ e st', k e st' = some r ∧ CodeS Go.Proofs.Try.prog (.block 0 (.loop (bodyAt Go.Proofs.Try.f114 0))) st e st' :=
  loop_ok (tab := tab) (h := g114h m) (F := fun n ls k => g114l0K (fun a722 a724 a725 k762 v723 a726 => g114l0 (g114l2M m) a722 a724 a725 k762 n v723 a726) ls k) tabOk (g114Calls m) mixed (loopsOk_of _ (fun p hp => by
    rw [show loopsOf (bodyAt Go.Proofs.Try.f114 0) = [(2, bodyAt Go.Proofs.Try.f114 2)] by kernel_rfl] at hp
    simp only [List.mem_cons, List.not_mem_nil, or_false] at hp
    rcases hp with rfl
    exact g114l2Ok m))
    (fun _ _ => rfl) (fun n ls k => g114l0Step (g114l2M m) (g114l0M m) (g114l4M m) (fun a722 a724 a725 k762 => g114l0 (g114l2M m) a722 a724 a725 k762 n) ls k) (n := m) h
theorem g114l4Ok (m : Nat) (α : Type) (st : St) (k : Ex → St → Option α) (r : α) (h : (g114h m).loop 4 st k = some r) :
    ∃ e st', k e st' = some r ∧ CodeS Go.Proofs.Try.prog (.block 4 (.loop (bodyAt Go.Proofs.Try.f114 4))) st e st' :=
  loop_ok (tab := tab) (h := g114h m) (F := fun n ls k => g114l4K (fun m765 m766 m767 v768 a770 a771 k776 k777 v769 => g114l4 m765 m766 m767 v768 a770 a771 k776 k777 n v769) ls k) tabOk (g114Calls m) mixed (loopsOk_of _ (fun p hp => by rw [show loopsOf (bodyAt Go.Proofs.Try.f114 4) = [] by kernel_rfl] at hp; cases hp))
    (fun _ _ => rfl) (fun n ls k => g114l4Step (g114l2M m) (g114l0M m) (g114l4M m) (fun m765 m766 m767 v768 a770 a771 k776 k777 => g114l4 m765 m766 m767 v768 a770 a771 k776 k777 n) ls k) (n := m) h
theorem g114Fn (m : Nat) : FnOk Go.Proofs.Try.prog 114 g114tp g114bp (fun {α} => g114K (g114 (α := α) m)) :=
  fn_ok (tab := tab) (h := g114h m) (fn := Go.Proofs.Try.f114) (F := fun {α} => g114K (g114 (α := α) m)) tabOk (g114Calls m) mixed (by kernel_rfl) (by kernel_rfl) (fun c hc => by
    rw [bodyOf_some hc]
    exact loopsOk_of _ (fun p hp => by
    rw [show loopsOf (bodyOf Go.Proofs.Try.f114) = [(0, bodyAt Go.Proofs.Try.f114 0), (4, bodyAt Go.Proofs.Try.f114 4)] by kernel_rfl] at hp
    simp only [List.mem_cons, List.not_mem_nil, or_false] at hp
    rcases hp with rfl | rfl
    · exact g114l0Ok m
    · exact g114l4Ok m))
    (fun α ls k => g114Main (g114l2M m) (g114l0M m) (g114l4M m) ls k)
theorem g114Ok (m : Nat) : RowOk Go.Proofs.Try.prog 114 (fun {α} => rowK g114tp g114bp (g114K (g114 (α := α) m))) := row_of (g114Fn m)

/-! ### g78: (*impl.calc).mul -/
def g78b {α : Type} (G_g114 : {α : Type} → (List Int) → (List Int) → ((List Int) → Bool → Option α) → Option α) (G_g67 : {α : Type} → Bool → (List Int) → (Bool → Option α) → Option α)  (q715 : Bool) (u716 : List Int) (q717 : Bool) (u718 : List Int) (q719 : Bool) (k788 : Bool → (List Int) → Bool → Option α) : Option α :=
  G_g114 u716 u718
    (fun l782 b783 =>
      cond q719
       (
        G_g67 (!(q715 == q717)) l782
          (fun b785 =>
            k788 b785 l782 true))
       (
        G_g67 (!(q715 == q717)) l782
          (fun b787 =>
            k788 b787 l782 b783)))
def g78 {α : Type} (m : Nat) : Bool → (List Int) → Bool → (List Int) → Bool → (Bool → (List Int) → Bool → Option α) → Option α :=
  g78b (g114 m) (g67 m)
def g78tp : List TP := [(.vl (.sv (.ptr 0 0))), (.vl (.agg [(.one .bool), (.seq (.int .u32) 6)])), (.vl (.agg [(.one .bool), (.seq (.int .u32) 6)]))]
def g78bp : List BP := [(true, [(.one .bool)])]
def g78K {α : Type} (G : Bool → (List Int) → Bool → (List Int) → Bool → (Bool → (List Int) → Bool → Option α) → Option α) (ls : List Lf) (k : TV → List (List Seg) → List (List Seg) → Option α) : Option α :=
  G (lf ls 0).bool ((lf ls 1).lst (.int .u32)) (lf ls 2).bool ((lf ls 3).lst (.int .u32)) (lf ls 4).bool
    (fun y0 y1 y2 => k (.vl (.agg [(.one (.bool y0)), (.seq (.int .u32) 6 y1)])) [[(.one (.bool y2))]] [])
def g78hd (G_g114 : {α : Type} → (List Int) → (List Int) → ((List Int) → Bool → Option α) → Option α) (G_g67 : {α : Type} → Bool → (List Int) → (Bool → Option α) → Option α)  : Hd where
  call := fun f args Bs k => cond (Nat.beq f 114) (rowK g114tp g114bp (g114K G_g114) args Bs k) (cond (Nat.beq f 67) (rowK g67tp g67bp (g67K G_g67) args Bs k) (none))
  loop := fun id st k => none
  ro := fun f => []
def g78h (m : Nat) : Hd := g78hd (g114 m) (g67 m)
theorem g78Main (G_g114 : {α : Type} → (List Int) → (List Int) → ((List Int) → Bool → Option α) → Option α) (G_g67 : {α : Type} → Bool → (List Int) → (Bool → Option α) → Option α)  {α : Type} (ls : List Lf) (k : TV → List (List Seg) → List (List Seg) → Option α) :
    g78K (g78b G_g114 G_g67) ls k = evFun tab (g78hd G_g114 G_g67) Go.Proofs.Try.f78 (fillT g78tp ls).1 (fillB g78bp (fillT g78tp ls).2).1 k := by kernel_rfl
theorem g78Calls (m : Nat) : (g78h m).CallsOk Go.Proofs.Try.prog := (cok_cons (g114Ok m) (cok_cons (g67Ok m) cok_nil))
theorem g78Fn (m : Nat) : FnOk Go.Proofs.Try.prog 78 g78tp g78bp (fun {α} => g78K (g78 (α := α) m)) :=
  fn_ok (tab := tab) (h := g78h m) (fn := Go.Proofs.Try.f78) (F := fun {α} => g78K (g78 (α := α) m)) tabOk (g78Calls m) mixed (by kernel_rfl) (by kernel_rfl) (fun c hc => by
    rw [bodyOf_some hc]
    exact loopsOk_of _ (fun p hp => by rw [show loopsOf (bodyOf Go.Proofs.Try.f78) = [] by kernel_rfl] at hp; cases hp))
    (fun α ls k => g78Main (g114 m) (g67 m) ls k)
theorem g78Ok (m : Nat) : RowOk Go.Proofs.Try.prog 78 (fun {α} => rowK g78tp g78bp (g78K (g78 (α := α) m))) := row_of (g78Fn m)

/-! ### g34: impl.MulWides -/
def g34b {α : Type} (G_g24 : {α : Type} → Bool → (List Int) → (Bool → Option α) → Option α) (G_g78 : {α : Type} → Bool → (List Int) → Bool → (List Int) → Bool → (Bool → (List Int) → Bool → Option α) → Option α) (G_g74 : {α : Type} → Bool → (List Int) → Bool → (Bool → (List Int) → Int → Option α) → Option α)  (q707 : Bool) (u708 : List Int) (q709 : Bool) (u710 : List Int) (k795 : Bool → (List Int) → Int → Option α) : Option α :=
  G_g24 q707 u708
    (fun b711 =>
      cond (!b711)
       (
        k795 false [0, 0, 0, 0, 0, 0] (1 : Int))
       (
        G_g24 q709 u710
          (fun b713 =>
            cond (!b713)
             (
              k795 false [0, 0, 0, 0, 0, 0] (1 : Int))
             (
              G_g78 q707 u708 q709 u710 false
                (fun b789 l790 b791 =>
                  G_g74 b789 l790 b791
                    (fun b792 l793 x794 =>
                      k795 b792 l793 x794))))))
def g34 {α : Type} (m : Nat) : Bool → (List Int) → Bool → (List Int) → (Bool → (List Int) → Int → Option α) → Option α :=
  g34b (g24 m) (g78 m) (g74 m)
def g34tp : List TP := [(.vl (.agg [(.one .bool), (.seq (.int .u32) 6)])), (.vl (.agg [(.one .bool), (.seq (.int .u32) 6)]))]
def g34bp : List BP := []
def g34K {α : Type} (G : Bool → (List Int) → Bool → (List Int) → (Bool → (List Int) → Int → Option α) → Option α) (ls : List Lf) (k : TV → List (List Seg) → List (List Seg) → Option α) : Option α :=
  G (lf ls 0).bool ((lf ls 1).lst (.int .u32)) (lf ls 2).bool ((lf ls 3).lst (.int .u32))
    (fun y0 y1 y2 => k (.tup [(.agg [(.one (.bool y0)), (.seq (.int .u32) 6 y1)]), (.sv (.int .i64 y2))]) [] [])
def g34hd (G_g24 : {α : Type} → Bool → (List Int) → (Bool → Option α) → Option α) (G_g78 : {α : Type} → Bool → (List Int) → Bool → (List Int) → Bool → (Bool → (List Int) → Bool → Option α) → Option α) (G_g74 : {α : Type} → Bool → (List Int) → Bool → (Bool → (List Int) → Int → Option α) → Option α)  : Hd where
  call := fun f args Bs k => cond (Nat.beq f 24) (rowK g24tp g24bp (g24K G_g24) args Bs k) (cond (Nat.beq f 78) (rowK g78tp g78bp (g78K G_g78) args Bs k) (cond (Nat.beq f 74) (rowK g74tp g74bp (g74K G_g74) args Bs k) (none)))
  loop := fun id st k => none
  ro := fun f => cond (Nat.beq f 74) [0] ([])
def g34h (m : Nat) : Hd := g34hd (g24 m) (g78 m) (g74 m)
theorem g34Main (G_g24 : {α : Type} → Bool → (List Int) → (Bool → Option α) → Option α) (G_g78 : {α : Type} → Bool → (List Int) → Bool → (List Int) → Bool → (Bool → (List Int) → Bool → Option α) → Option α) (G_g74 : {α : Type} → Bool → (List Int) → Bool → (Bool → (List Int) → Int → Option α) → Option α)  {α : Type} (ls : List Lf) (k : TV → List (List Seg) → List (List Seg) → Option α) :
    g34K (g34b G_g24 G_g78 G_g74) ls k = evFun tab (g34hd G_g24 G_g78 G_g74) Go.Proofs.Try.f34 (fillT g34tp ls).1 (fillB g34bp (fillT g34tp ls).2).1 k := by kernel_rfl
theorem g34Calls (m : Nat) : (g34h m).CallsOk Go.Proofs.Try.prog := (cok_cons (g24Ok m) (cok_cons (g78Ok m) (cok_cons (g74Ok m) cok_nil)))
theorem g34Fn (m : Nat) : FnOk Go.Proofs.Try.prog 34 g34tp g34bp (fun {α} => g34K (g34 (α := α) m)) :=
  fn_ok (tab := tab) (h := g34h m) (fn := Go.Proofs.Try.f34) (F := fun {α} => g34K (g34 (α := α) m)) tabOk (g34Calls m) mixed (by kernel_rfl) (by kernel_rfl) (fun c hc => by
    rw [bodyOf_some hc]
    exact loopsOk_of _ (fun p hp => by rw [show loopsOf (bodyOf Go.Proofs.Try.f34) = [] by kernel_rfl] at hp; cases hp))
    (fun α ls k => g34Main (g24 m) (g78 m) (g74 m) ls k)
theorem g34Ok (m : Nat) : RowOk Go.Proofs.Try.prog 34 (fun {α} => rowK g34tp g34bp (g34K (g34 (α := α) m))) := row_of (g34Fn m)

/-! ### g11: laws.FnExactMulWides -/
def g11b {α : Type} (G_g23 : {α : Type} → Bool → (List Int) → ((List Int) → Option α) → Option α) (G_g55 : {α : Type} → Bool → (List Int) → Bool → (List Int) → (Bool → (List Int) → Int → Option α) → Option α) (G_g34 : {α : Type} → Bool → (List Int) → Bool → (List Int) → (Bool → (List Int) → Int → Option α) → Option α) (G_g27 : {α : Type} → Bool → (List Int) → Bool → (List Int) → (Bool → Option α) → Option α)  (q610 : Bool) (u611 : List Int) (q612 : Bool) (u613 : List Int) (k802 : Bool → Option α) : Option α :=
  G_g23 q610 u611
    (fun l614 =>
      G_g23 q612 u613
        (fun l615 =>
          G_g55 q610 l614 q612 l615
            (fun b702 l703 x704 =>
              G_g23 q610 u611
                (fun l705 =>
                  G_g23 q612 u613
                    (fun l706 =>
                      G_g34 q610 l705 q612 l706
                        (fun b796 l797 x798 =>
                          G_g27 b796 l797 b702 l703
                            (fun b799 =>
                              cond (!b799)
                               (
                                k802 false)
                               (
                                cond (x798 != x704)
                                 (
                                  k802 false)
                                 (
                                  k802 true)))))))))
def g11 {α : Type} (m : Nat) : Bool → (List Int) → Bool → (List Int) → (Bool → Option α) → Option α :=
  g11b (g23 m) (g55 m) (g34 m) (g27 m)
def g11tp : List TP := [(.vl (.agg [(.one .bool), (.seq (.int .u32) 6)])), (.vl (.agg [(.one .bool), (.seq (.int .u32) 6)]))]
def g11bp : List BP := []
def g11K {α : Type} (G : Bool → (List Int) → Bool → (List Int) → (Bool → Option α) → Option α) (ls : List Lf) (k : TV → List (List Seg) → List (List Seg) → Option α) : Option α :=
  G (lf ls 0).bool ((lf ls 1).lst (.int .u32)) (lf ls 2).bool ((lf ls 3).lst (.int .u32))
    (fun y0 => k (.vl (.sv (.bool y0))) [] [])
def g11hd (G_g23 : {α : Type} → Bool → (List Int) → ((List Int) → Option α) → Option α) (G_g55 : {α : Type} → Bool → (List Int) → Bool → (List Int) → (Bool → (List Int) → Int → Option α) → Option α) (G_g34 : {α : Type} → Bool → (List Int) → Bool → (List Int) → (Bool → (List Int) → Int → Option α) → Option α) (G_g27 : {α : Type} → Bool → (List Int) → Bool → (List Int) → (Bool → Option α) → Option α)  : Hd where
  call := fun f args Bs k => cond (Nat.beq f 23) (rowK g23tp g23bp (g23K G_g23) args Bs k) (cond (Nat.beq f 55) (rowK g55tp g55bp (g55K G_g55) args Bs k) (cond (Nat.beq f 34) (rowK g34tp g34bp (g34K G_g34) args Bs k) (cond (Nat.beq f 27) (rowK g27tp g27bp (g27K G_g27) args Bs k) (none))))
  loop := fun id st k => none
  ro := fun f => []
def g11h (m : Nat) : Hd := g11hd (g23 m) (g55 m) (g34 m) (g27 m)
theorem g11Main (G_g23 : {α : Type} → Bool → (List Int) → ((List Int) → Option α) → Option α) (G_g55 : {α : Type} → Bool → (List Int) → Bool → (List Int) → (Bool → (List Int) → Int → Option α) → Option α) (G_g34 : {α : Type} → Bool → (List Int) → Bool → (List Int) → (Bool → (List Int) → Int → Option α) → Option α) (G_g27 : {α : Type} → Bool → (List Int) → Bool → (List Int) → (Bool → Option α) → Option α)  {α : Type} (ls : List Lf) (k : TV → List (List Seg) → List (List Seg) → Option α) :
    g11K (g11b G_g23 G_g55 G_g34 G_g27) ls k = evFun tab (g11hd G_g23 G_g55 G_g34 G_g27) Go.Proofs.Try.f11 (fillT g11tp ls).1 (fillB g11bp (fillT g11tp ls).2).1 k := by kernel_rfl
theorem g11Calls (m : Nat) : (g11h m).CallsOk Go.Proofs.Try.prog := (cok_cons (g23Ok m) (cok_cons (g55Ok m) (cok_cons (g34Ok m) (cok_cons (g27Ok m) cok_nil))))
theorem g11Fn (m : Nat) : FnOk Go.Proofs.Try.prog 11 g11tp g11bp (fun {α} => g11K (g11 (α := α) m)) :=
  fn_ok (tab := tab) (h := g11h m) (fn := Go.Proofs.Try.f11) (F := fun {α} => g11K (g11 (α := α) m)) tabOk (g11Calls m) mixed (by kernel_rfl) (by kernel_rfl) (fun c hc => by
    rw [bodyOf_some hc]
    exact loopsOk_of _ (fun p hp => by rw [show loopsOf (bodyOf Go.Proofs.Try.f11) = [] by kernel_rfl] at hp; cases hp))
    (fun α ls k => g11Main (g23 m) (g55 m) (g34 m) (g27 m) ls k)
theorem g11Ok (m : Nat) : RowOk Go.Proofs.Try.prog 11 (fun {α} => rowK g11tp g11bp (g11K (g11 (α := α) m))) := row_of (g11Fn m)

/-! ### g95: spec.l01Narrow -/
def g95l0b {α : Type}   (c813 : Bool) (a814 : List Int) (k819 : Option α) (k820 : Option α) (r821 : Int → Option α) (v812 : Int) : Option α :=
  cond (decide (v812 < (6 : Int)))
   (
    if 0 ≤ v812 ∧ v812 < (6 : Nat) then
      if v812.toNat < 6 then
        cond ((List.getD a814 v812.toNat 0) != (0 : Int))
         (
          k819)
         (
          r821 (IntKind.wrap .i64 (v812 + (1 : Int))))
      else
        none
    else
      none)
   (
    k820)
def g95l0 {α : Type}   (c813 : Bool) (a814 : List Int) (k819 : Option α) (k820 : Option α) : Nat → Int → Option α
  | 0 => fun _ => none
  | m + 1 => fun v812 => g95l0b c813 a814 k819 k820 (g95l0 c813 a814 k819 k820 m) v812
def g95l0M {α : Type} (m : Nat) : Bool → (List Int) → (Option α) → (Option α) → Int → Option α :=
  fun c813 a814 k819 k820 v812 => g95l0 c813 a814 k819 k820 m v812
def g95l0D : LoopD := { n := 44, sl := [0, 4], bl := [0], tp := [(.vl (.sv (.ptr 0 0))), (.vl (.sv (.int .i64)))], bp := [(false, [(.one .bool), (.seq (.int .u32) 6)])], xs := [(1, [2, 3], [0]), (2, [0], [0])] }
def g95l0K {α : Type} (L : Bool → (List Int) → (Option α) → (Option α) → Int → Option α) (ls : List Lf) (k : Ex → St → Option α) : Option α :=
  L (lf ls 1).bool ((lf ls 2).lst (.int .u32))
    (k .ret (mkSt 44 [2, 3] [(.vl (.sv (.int .i64 (0 : Int)))), (.vl (.sv (.bool false)))] [0] [(false, [(.one (.bool (lf ls 1).bool)), (.seq (.int .u32) 6 ((lf ls 2).lst (.int .u32)))])]))
    (k .normal (mkSt 44 [0] [(.vl (.sv (.ptr 0 0)))] [0] [(false, [(.one (.bool (lf ls 1).bool)), (.seq (.int .u32) 6 ((lf ls 2).lst (.int .u32)))])]))
    (lf ls 0).int
def g95b {α : Type}  (L_g95l0 : {α : Type} → Bool → (List Int) → (Option α) → (Option α) → Int → Option α) (q810 : Bool) (u811 : List Int) (k833 : Int → Bool → Option α) : Option α :=
  L_g95l0 q810 u811
    (
      k833 (0 : Int) false)
    (
      let x827 : Int := IntKind.wrap .u64 ((IntKind.wrap .u64 ((IntKind.wrap .u64 (List.getD u811 1 0)) * 2 ^ 32)) + (IntKind.wrap .u64 (List.getD u811 0 0)))
      cond q810
       (
        k833 (IntKind.wrap .i64 (IntKind.wrap .u64 (0 - x827))) (decide (x827 ≤ (9223372036854775808 : Int))))
       (
        k833 (IntKind.wrap .i64 x827) (decide (x827 < (9223372036854775808 : Int)))))
    (2 : Int)
def g95 {α : Type} (m : Nat) : Bool → (List Int) → (Int → Bool → Option α) → Option α :=
  g95b (g95l0M m)
def g95tp : List TP := [(.vl (.sv (.ptr 0 0)))]
def g95bp : List BP := [(false, [(.one .bool), (.seq (.int .u32) 6)])]
def g95K {α : Type} (G : Bool → (List Int) → (Int → Bool → Option α) → Option α) (ls : List Lf) (k : TV → List (List Seg) → List (List Seg) → Option α) : Option α :=
  G (lf ls 0).bool ((lf ls 1).lst (.int .u32))
    (fun y0 y1 => k (.tup [(.sv (.int .i64 y0)), (.sv (.bool y1))]) [[(.one (.bool (lf ls 0).bool)), (.seq (.int .u32) 6 ((lf ls 1).lst (.int .u32)))]] [])
def g95hd  (L_g95l0 : {α : Type} → Bool → (List Int) → (Option α) → (Option α) → Int → Option α) : Hd where
  call := fun f args Bs k => none
  loop := fun id st k => cond (Nat.beq id 0) (loopH g95l0D (g95l0K L_g95l0) st k) (none)
  ro := fun f => []
def g95h (m : Nat) : Hd := g95hd (g95l0M m)
theorem g95l0Step  (L_g95l0 : {α : Type} → Bool → (List Int) → (Option α) → (Option α) → Int → Option α) {α : Type} (L : Bool → (List Int) → (Option α) → (Option α) → Int → Option α) (ls : List Lf) (k : Ex → St → Option α) :
    g95l0K (fun c813 a814 k819 k820 v812 => g95l0b c813 a814 k819 k820 (L c813 a814 k819 k820) v812) ls k = ev tab (g95hd L_g95l0) (bodyAt Go.Proofs.Try.f95 0) (atHead g95l0D ls) (loopK g95l0D 0 (loopH g95l0D (g95l0K L)) k) := by kernel_rfl
theorem g95Main  (L_g95l0 : {α : Type} → Bool → (List Int) → (Option α) → (Option α) → Int → Option α) {α : Type} (ls : List Lf) (k : TV → List (List Seg) → List (List Seg) → Option α) :
    g95K (g95b L_g95l0) ls k = evFun tab (g95hd L_g95l0) Go.Proofs.Try.f95 (fillT g95tp ls).1 (fillB g95bp (fillT g95tp ls).2).1 k := by kernel_rfl
theorem g95Calls (m : Nat) : (g95h m).CallsOk Go.Proofs.Try.prog := cok_nil
theorem g95l0Ok (m : Nat) (α : Type) (st : St) (k : Ex → St → Option α) (r : α) (h : (g95h m).loop 0 st k = some r) :
    ∃ e st', k e st' = some r ∧ CodeS Go.Proofs.Try.prog (.block 0 (.loop (bodyAt Go.Proofs.Try.f95 0))) st e st' :=
  loop_ok (tab := tab) (h := g95h m) (F := fun n ls k => g95l0K (fun c813 a814 k819 k820 v812 => g95l0 c813 a814 k819 k820 n v812) ls k) tabOk (g95Calls m) mixed (loopsOk_of _ (fun p hp => by rw [show loopsOf (bodyAt Go.Proofs.Try.f95 0) = [] by kernel_rfl] at hp; cases hp))
    (fun _ _ => rfl) (fun n ls k => g95l0Step (g95l0M m) (fun c813 a814 k819 k820 => g95l0 c813 a814 k819 k820 n) ls k) (n := m) h
theorem g95Fn (m : Nat) : FnOk Go.Proofs.Try.prog 95 g95tp g95bp (fun {α} => g95K (g95 (α := α) m)) :=
  fn_ok (tab := tab) (h := g95h m) (fn := Go.Proofs.Try.f95) (F := fun {α} => g95K (g95 (α := α) m)) tabOk (g95Calls m) mixed (by kernel_rfl) (by kernel_rfl) (fun c hc => by
    rw [bodyOf_some hc]
    exact loopsOk_of _ (fun p hp => by
    rw [show loopsOf (bodyOf Go.Proofs.Try.f95) = [(0, bodyAt Go.Proofs.Try.f95 0)] by kernel_rfl] at hp
    simp only [List.mem_cons, List.not_mem_nil, or_false] at hp
    rcases hp with rfl
    exact g95l0Ok m))
    (fun α ls k => g95Main (g95l0M m) ls k)
theorem g95Ok (m : Nat) : RowOk Go.Proofs.Try.prog 95 (fun {α} => rowK g95tp g95bp (g95K (g95 (α := α) m))) := row_of (g95Fn m)

/-! ### g53: spec.NarrowOf -/
def g53b {α : Type} (G_g64 : {α : Type} → Bool → (List Int) → (Bool → Option α) → Option α) (G_g95 : {α : Type} → Bool → (List Int) → (Int → Bool → Option α) → Option α)  (q806 : Bool) (u807 : List Int) (k837 : Int → Int → Option α) : Option α :=
  G_g64 q806 u807
    (fun b808 =>
      cond (!b808)
       (
        k837 (0 : Int) (1 : Int))
       (
        G_g95 q806 u807
          (fun x834 b835 =>
            cond (!b835)
             (
              k837 (0 : Int) (2 : Int))
             (
              k837 x834 (0 : Int)))))
def g53 {α : Type} (m : Nat) : Bool → (List Int) → (Int → Int → Option α) → Option α :=
  g53b (g64 m) (g95 m)
def g53tp : List TP := [(.vl (.agg [(.one .bool), (.seq (.int .u32) 6)]))]
def g53bp : List BP := []
def g53K {α : Type} (G : Bool → (List Int) → (Int → Int → Option α) → Option α) (ls : List Lf) (k : TV → List (List Seg) → List (List Seg) → Option α) : Option α :=
  G (lf ls 0).bool ((lf ls 1).lst (.int .u32))
    (fun y0 y1 => k (.tup [(.sv (.int .i64 y0)), (.sv (.int .i64 y1))]) [] [])
def g53hd (G_g64 : {α : Type} → Bool → (List Int) → (Bool → Option α) → Option α) (G_g95 : {α : Type} → Bool → (List Int) → (Int → Bool → Option α) → Option α)  : Hd where
  call := fun f args Bs k => cond (Nat.beq f 64) (rowK g64tp g64bp (g64K G_g64) args Bs k) (cond (Nat.beq f 95) (rowK g95tp g95bp (g95K G_g95) args Bs k) (none))
  loop := fun id st k => none
  ro := fun f => cond (Nat.beq f 64) [0] (cond (Nat.beq f 95) [0] ([]))
def g53h (m : Nat) : Hd := g53hd (g64 m) (g95 m)
theorem g53Main (G_g64 : {α : Type} → Bool → (List Int) → (Bool → Option α) → Option α) (G_g95 : {α : Type} → Bool → (List Int) → (Int → Bool → Option α) → Option α)  {α : Type} (ls : List Lf) (k : TV → List (List Seg) → List (List Seg) → Option α) :
    g53K (g53b G_g64 G_g95) ls k = evFun tab (g53hd G_g64 G_g95) Go.Proofs.Try.f53 (fillT g53tp ls).1 (fillB g53bp (fillT g53tp ls).2).1 k := by kernel_rfl
theorem g53Calls (m : Nat) : (g53h m).CallsOk Go.Proofs.Try.prog := (cok_cons (g64Ok m) (cok_cons (g95Ok m) cok_nil))
theorem g53Fn (m : Nat) : FnOk Go.Proofs.Try.prog 53 g53tp g53bp (fun {α} => g53K (g53 (α := α) m)) :=
  fn_ok (tab := tab) (h := g53h m) (fn := Go.Proofs.Try.f53) (F := fun {α} => g53K (g53 (α := α) m)) tabOk (g53Calls m) mixed (by kernel_rfl) (by kernel_rfl) (fun c hc => by
    rw [bodyOf_some hc]
    exact loopsOk_of _ (fun p hp => by rw [show loopsOf (bodyOf Go.Proofs.Try.f53) = [] by kernel_rfl] at hp; cases hp))
    (fun α ls k => g53Main (g64 m) (g95 m) ls k)
theorem g53Ok (m : Nat) : RowOk Go.Proofs.Try.prog 53 (fun {α} => rowK g53tp g53bp (g53K (g53 (α := α) m))) := row_of (g53Fn m)

/-! ### g96: impl.narrow -/
def g96b {α : Type} (G_g94 : {α : Type} → (List Int) → (Int → Option α) → Option α)  (q845 : Bool) (u846 : List Int) (k864 : Int → Bool → Option α) : Option α :=
  let x852 : Int := ibits .or .u64 (IntKind.wrap .u64 ((IntKind.wrap .u64 (List.getD u846 1 0)) * 2 ^ 32)) (IntKind.wrap .u64 (List.getD u846 0 0))
  G_g94 u846
    (fun x853 =>
      cond (decide (x853 > (64 : Int)))
       (
        k864 (0 : Int) false)
       (
        cond (decide (x852 > (9223372036854775808 : Int)))
         (
          k864 (0 : Int) false)
         (
          cond (x852 == (9223372036854775808 : Int))
           (
            cond (!q845)
             (
              k864 (0 : Int) false)
             (
              cond q845
               (
                k864 (IntKind.wrap .i64 (IntKind.wrap .u64 (0 - x852))) true)
               (
                k864 (IntKind.wrap .i64 x852) true)))
           (
            cond q845
             (
              k864 (IntKind.wrap .i64 (IntKind.wrap .u64 (0 - x852))) true)
             (
              k864 (IntKind.wrap .i64 x852) true)))))
def g96 {α : Type} (m : Nat) : Bool → (List Int) → (Int → Bool → Option α) → Option α :=
  g96b (g94 m)
def g96tp : List TP := [(.vl (.agg [(.one .bool), (.seq (.int .u32) 6)]))]
def g96bp : List BP := []
def g96K {α : Type} (G : Bool → (List Int) → (Int → Bool → Option α) → Option α) (ls : List Lf) (k : TV → List (List Seg) → List (List Seg) → Option α) : Option α :=
  G (lf ls 0).bool ((lf ls 1).lst (.int .u32))
    (fun y0 y1 => k (.tup [(.sv (.int .i64 y0)), (.sv (.bool y1))]) [] [])
def g96hd (G_g94 : {α : Type} → (List Int) → (Int → Option α) → Option α)  : Hd where
  call := fun f args Bs k => cond (Nat.beq f 94) (rowK g94tp g94bp (g94K G_g94) args Bs k) (none)
  loop := fun id st k => none
  ro := fun f => []
def g96h (m : Nat) : Hd := g96hd (g94 m)
theorem g96Main (G_g94 : {α : Type} → (List Int) → (Int → Option α) → Option α)  {α : Type} (ls : List Lf) (k : TV → List (List Seg) → List (List Seg) → Option α) :
    g96K (g96b G_g94) ls k = evFun tab (g96hd G_g94) Go.Proofs.Try.f96 (fillT g96tp ls).1 (fillB g96bp (fillT g96tp ls).2).1 k := by kernel_rfl
theorem g96Calls (m : Nat) : (g96h m).CallsOk Go.Proofs.Try.prog := (cok_cons (g94Ok m) cok_nil)
theorem g96Fn (m : Nat) : FnOk Go.Proofs.Try.prog 96 g96tp g96bp (fun {α} => g96K (g96 (α := α) m)) :=
  fn_ok (tab := tab) (h := g96h m) (fn := Go.Proofs.Try.f96) (F := fun {α} => g96K (g96 (α := α) m)) tabOk (g96Calls m) mixed (by kernel_rfl) (by kernel_rfl) (fun c hc => by
    rw [bodyOf_some hc]
    exact loopsOk_of _ (fun p hp => by rw [show loopsOf (bodyOf Go.Proofs.Try.f96) = [] by kernel_rfl] at hp; cases hp))
    (fun α ls k => g96Main (g94 m) ls k)
theorem g96Ok (m : Nat) : RowOk Go.Proofs.Try.prog 96 (fun {α} => rowK g96tp g96bp (g96K (g96 (α := α) m))) := row_of (g96Fn m)

/-! ### g54: impl.NarrowOf -/
def g54b {α : Type} (G_g24 : {α : Type} → Bool → (List Int) → (Bool → Option α) → Option α) (G_g96 : {α : Type} → Bool → (List Int) → (Int → Bool → Option α) → Option α)  (q841 : Bool) (u842 : List Int) (k868 : Int → Int → Option α) : Option α :=
  G_g24 q841 u842
    (fun b843 =>
      cond (!b843)
       (
        k868 (0 : Int) (1 : Int))
       (
        G_g96 q841 u842
          (fun x865 b866 =>
            cond (!b866)
             (
              k868 (0 : Int) (2 : Int))
             (
              k868 x865 (0 : Int)))))
def g54 {α : Type} (m : Nat) : Bool → (List Int) → (Int → Int → Option α) → Option α :=
  g54b (g24 m) (g96 m)
def g54tp : List TP := [(.vl (.agg [(.one .bool), (.seq (.int .u32) 6)]))]
def g54bp : List BP := []
def g54K {α : Type} (G : Bool → (List Int) → (Int → Int → Option α) → Option α) (ls : List Lf) (k : TV → List (List Seg) → List (List Seg) → Option α) : Option α :=
  G (lf ls 0).bool ((lf ls 1).lst (.int .u32))
    (fun y0 y1 => k (.tup [(.sv (.int .i64 y0)), (.sv (.int .i64 y1))]) [] [])
def g54hd (G_g24 : {α : Type} → Bool → (List Int) → (Bool → Option α) → Option α) (G_g96 : {α : Type} → Bool → (List Int) → (Int → Bool → Option α) → Option α)  : Hd where
  call := fun f args Bs k => cond (Nat.beq f 24) (rowK g24tp g24bp (g24K G_g24) args Bs k) (cond (Nat.beq f 96) (rowK g96tp g96bp (g96K G_g96) args Bs k) (none))
  loop := fun id st k => none
  ro := fun f => []
def g54h (m : Nat) : Hd := g54hd (g24 m) (g96 m)
theorem g54Main (G_g24 : {α : Type} → Bool → (List Int) → (Bool → Option α) → Option α) (G_g96 : {α : Type} → Bool → (List Int) → (Int → Bool → Option α) → Option α)  {α : Type} (ls : List Lf) (k : TV → List (List Seg) → List (List Seg) → Option α) :
    g54K (g54b G_g24 G_g96) ls k = evFun tab (g54hd G_g24 G_g96) Go.Proofs.Try.f54 (fillT g54tp ls).1 (fillB g54bp (fillT g54tp ls).2).1 k := by kernel_rfl
theorem g54Calls (m : Nat) : (g54h m).CallsOk Go.Proofs.Try.prog := (cok_cons (g24Ok m) (cok_cons (g96Ok m) cok_nil))
theorem g54Fn (m : Nat) : FnOk Go.Proofs.Try.prog 54 g54tp g54bp (fun {α} => g54K (g54 (α := α) m)) :=
  fn_ok (tab := tab) (h := g54h m) (fn := Go.Proofs.Try.f54) (F := fun {α} => g54K (g54 (α := α) m)) tabOk (g54Calls m) mixed (by kernel_rfl) (by kernel_rfl) (fun c hc => by
    rw [bodyOf_some hc]
    exact loopsOk_of _ (fun p hp => by rw [show loopsOf (bodyOf Go.Proofs.Try.f54) = [] by kernel_rfl] at hp; cases hp))
    (fun α ls k => g54Main (g24 m) (g96 m) ls k)
theorem g54Ok (m : Nat) : RowOk Go.Proofs.Try.prog 54 (fun {α} => rowK g54tp g54bp (g54K (g54 (α := α) m))) := row_of (g54Fn m)

/-! ### g10: laws.FnExactNarrowOf -/
def g10b {α : Type} (G_g23 : {α : Type} → Bool → (List Int) → ((List Int) → Option α) → Option α) (G_g53 : {α : Type} → Bool → (List Int) → (Int → Int → Option α) → Option α) (G_g54 : {α : Type} → Bool → (List Int) → (Int → Int → Option α) → Option α)  (q803 : Bool) (u804 : List Int) (k873 : Bool → Option α) : Option α :=
  G_g23 q803 u804
    (fun l805 =>
      G_g53 q803 l805
        (fun x838 x839 =>
          G_g23 q803 u804
            (fun l840 =>
              G_g54 q803 l840
                (fun x869 x870 =>
                  cond (x869 != x838)
                   (
                    k873 false)
                   (
                    cond (x870 != x839)
                     (
                      k873 false)
                     (
                      k873 true))))))
def g10 {α : Type} (m : Nat) : Bool → (List Int) → (Bool → Option α) → Option α :=
  g10b (g23 m) (g53 m) (g54 m)
def g10tp : List TP := [(.vl (.agg [(.one .bool), (.seq (.int .u32) 6)]))]
def g10bp : List BP := []
def g10K {α : Type} (G : Bool → (List Int) → (Bool → Option α) → Option α) (ls : List Lf) (k : TV → List (List Seg) → List (List Seg) → Option α) : Option α :=
  G (lf ls 0).bool ((lf ls 1).lst (.int .u32))
    (fun y0 => k (.vl (.sv (.bool y0))) [] [])
def g10hd (G_g23 : {α : Type} → Bool → (List Int) → ((List Int) → Option α) → Option α) (G_g53 : {α : Type} → Bool → (List Int) → (Int → Int → Option α) → Option α) (G_g54 : {α : Type} → Bool → (List Int) → (Int → Int → Option α) → Option α)  : Hd where
  call := fun f args Bs k => cond (Nat.beq f 23) (rowK g23tp g23bp (g23K G_g23) args Bs k) (cond (Nat.beq f 53) (rowK g53tp g53bp (g53K G_g53) args Bs k) (cond (Nat.beq f 54) (rowK g54tp g54bp (g54K G_g54) args Bs k) (none)))
  loop := fun id st k => none
  ro := fun f => []
def g10h (m : Nat) : Hd := g10hd (g23 m) (g53 m) (g54 m)
theorem g10Main (G_g23 : {α : Type} → Bool → (List Int) → ((List Int) → Option α) → Option α) (G_g53 : {α : Type} → Bool → (List Int) → (Int → Int → Option α) → Option α) (G_g54 : {α : Type} → Bool → (List Int) → (Int → Int → Option α) → Option α)  {α : Type} (ls : List Lf) (k : TV → List (List Seg) → List (List Seg) → Option α) :
    g10K (g10b G_g23 G_g53 G_g54) ls k = evFun tab (g10hd G_g23 G_g53 G_g54) Go.Proofs.Try.f10 (fillT g10tp ls).1 (fillB g10bp (fillT g10tp ls).2).1 k := by kernel_rfl
theorem g10Calls (m : Nat) : (g10h m).CallsOk Go.Proofs.Try.prog := (cok_cons (g23Ok m) (cok_cons (g53Ok m) (cok_cons (g54Ok m) cok_nil)))
theorem g10Fn (m : Nat) : FnOk Go.Proofs.Try.prog 10 g10tp g10bp (fun {α} => g10K (g10 (α := α) m)) :=
  fn_ok (tab := tab) (h := g10h m) (fn := Go.Proofs.Try.f10) (F := fun {α} => g10K (g10 (α := α) m)) tabOk (g10Calls m) mixed (by kernel_rfl) (by kernel_rfl) (fun c hc => by
    rw [bodyOf_some hc]
    exact loopsOk_of _ (fun p hp => by rw [show loopsOf (bodyOf Go.Proofs.Try.f10) = [] by kernel_rfl] at hp; cases hp))
    (fun α ls k => g10Main (g23 m) (g53 m) (g54 m) ls k)
theorem g10Ok (m : Nat) : RowOk Go.Proofs.Try.prog 10 (fun {α} => rowK g10tp g10bp (g10K (g10 (α := α) m))) := row_of (g10Fn m)

/-! ### g120: spec.l00In -/
def g120b {α : Type}   (p884 : Int) (p885 : Int) (p886 : Int) (k889 : Bool → Option α) : Option α :=
  cond (decide (p884 ≥ p885))
   (
    k889 (decide (p884 ≤ p886)))
   (
    k889 false)
def g120 {α : Type} (m : Nat) : Int → Int → Int → (Bool → Option α) → Option α :=
  g120b
def g120tp : List TP := [(.vl (.sv (.int .i64))), (.vl (.sv (.int .i64))), (.vl (.sv (.int .i64)))]
def g120bp : List BP := []
def g120K {α : Type} (G : Int → Int → Int → (Bool → Option α) → Option α) (ls : List Lf) (k : TV → List (List Seg) → List (List Seg) → Option α) : Option α :=
  G (lf ls 0).int (lf ls 1).int (lf ls 2).int
    (fun y0 => k (.vl (.sv (.bool y0))) [] [])
def g120hd   : Hd where
  call := fun f args Bs k => none
  loop := fun id st k => none
  ro := fun f => []
def g120h (m : Nat) : Hd := g120hd
theorem g120Main   {α : Type} (ls : List Lf) (k : TV → List (List Seg) → List (List Seg) → Option α) :
    g120K (g120b) ls k = evFun tab (g120hd) Go.Proofs.Try.f120 (fillT g120tp ls).1 (fillB g120bp (fillT g120tp ls).2).1 k := by kernel_rfl
theorem g120Calls (m : Nat) : (g120h m).CallsOk Go.Proofs.Try.prog := cok_nil
theorem g120Fn (m : Nat) : FnOk Go.Proofs.Try.prog 120 g120tp g120bp (fun {α} => g120K (g120 (α := α) m)) :=
  fn_ok (tab := tab) (h := g120h m) (fn := Go.Proofs.Try.f120) (F := fun {α} => g120K (g120 (α := α) m)) tabOk (g120Calls m) mixed (by kernel_rfl) (by kernel_rfl) (fun c hc => by
    rw [bodyOf_some hc]
    exact loopsOk_of _ (fun p hp => by rw [show loopsOf (bodyOf Go.Proofs.Try.f120) = [] by kernel_rfl] at hp; cases hp))
    (fun α ls k => g120Main ls k)
theorem g120Ok (m : Nat) : RowOk Go.Proofs.Try.prog 120 (fun {α} => rowK g120tp g120bp (g120K (g120 (α := α) m))) := row_of (g120Fn m)

/-! ### g98: spec.l01Shift -/
def g98b {α : Type} (G_g120 : {α : Type} → Int → Int → Int → (Bool → Option α) → Option α)  (p883 : Int) (k891 : Bool → Option α) : Option α :=
  G_g120 p883 (0 : Int) (191 : Int)
    (fun b890 =>
      k891 b890)
def g98 {α : Type} (m : Nat) : Int → (Bool → Option α) → Option α :=
  g98b (g120 m)
def g98tp : List TP := [(.vl (.sv (.int .i64)))]
def g98bp : List BP := []
def g98K {α : Type} (G : Int → (Bool → Option α) → Option α) (ls : List Lf) (k : TV → List (List Seg) → List (List Seg) → Option α) : Option α :=
  G (lf ls 0).int
    (fun y0 => k (.vl (.sv (.bool y0))) [] [])
def g98hd (G_g120 : {α : Type} → Int → Int → Int → (Bool → Option α) → Option α)  : Hd where
  call := fun f args Bs k => cond (Nat.beq f 120) (rowK g120tp g120bp (g120K G_g120) args Bs k) (none)
  loop := fun id st k => none
  ro := fun f => []
def g98h (m : Nat) : Hd := g98hd (g120 m)
theorem g98Main (G_g120 : {α : Type} → Int → Int → Int → (Bool → Option α) → Option α)  {α : Type} (ls : List Lf) (k : TV → List (List Seg) → List (List Seg) → Option α) :
    g98K (g98b G_g120) ls k = evFun tab (g98hd G_g120) Go.Proofs.Try.f98 (fillT g98tp ls).1 (fillB g98bp (fillT g98tp ls).2).1 k := by kernel_rfl
theorem g98Calls (m : Nat) : (g98h m).CallsOk Go.Proofs.Try.prog := (cok_cons (g120Ok m) cok_nil)
theorem g98Fn (m : Nat) : FnOk Go.Proofs.Try.prog 98 g98tp g98bp (fun {α} => g98K (g98 (α := α) m)) :=
  fn_ok (tab := tab) (h := g98h m) (fn := Go.Proofs.Try.f98) (F := fun {α} => g98K (g98 (α := α) m)) tabOk (g98Calls m) mixed (by kernel_rfl) (by kernel_rfl) (fun c hc => by
    rw [bodyOf_some hc]
    exact loopsOk_of _ (fun p hp => by rw [show loopsOf (bodyOf Go.Proofs.Try.f98) = [] by kernel_rfl] at hp; cases hp))
    (fun α ls k => g98Main (g120 m) ls k)
theorem g98Ok (m : Nat) : RowOk Go.Proofs.Try.prog 98 (fun {α} => rowK g98tp g98bp (g98K (g98 (α := α) m))) := row_of (g98Fn m)

/-! ### g56: spec.PowerWide -/
def g56l0b {α : Type} (G_g97 : {α : Type} → Bool → (List Int) → Bool → (List Int) → (Bool → (List Int) → Int → Option α) → Option α)  (v896 : Int) (c898 : Bool) (a899 : List Int) (c900 : Bool) (a901 : List Int) (k910 : Int → (List Int) → Option α) (k911 : Bool → (List Int) → Option α) (r912 : Int → Bool → (List Int) → Option α) (v897 : Int) (c902 : Bool) (a903 : List Int) : Option α :=
  cond (decide (v897 < v896))
   (
    G_g97 c902 a903 c898 a899
      (fun b905 l906 x907 =>
        cond (x907 != (0 : Int))
         (
          k910 x907 [0, 0, 0, 0, 0, 0])
         (
          r912 (IntKind.wrap .i64 (v897 + (1 : Int))) b905 l906)))
   (
    k911 c902 a903)
def g56l0 {α : Type} (G_g97 : {α : Type} → Bool → (List Int) → Bool → (List Int) → (Bool → (List Int) → Int → Option α) → Option α)  (v896 : Int) (c898 : Bool) (a899 : List Int) (c900 : Bool) (a901 : List Int) (k910 : Int → (List Int) → Option α) (k911 : Bool → (List Int) → Option α) : Nat → Int → Bool → (List Int) → Option α
  | 0 => fun _ _ _ => none
  | m + 1 => fun v897 c902 a903 => g56l0b G_g97 v896 c898 a899 c900 a901 k910 k911 (g56l0 G_g97 v896 c898 a899 c900 a901 k910 k911 m) v897 c902 a903
def g56l0M {α : Type} (m : Nat) : Int → Bool → (List Int) → Bool → (List Int) → (Int → (List Int) → Option α) → (Bool → (List Int) → Option α) → Int → Bool → (List Int) → Option α :=
  fun v896 c898 a899 c900 a901 k910 k911 v897 c902 a903 => g56l0 (g97 m) v896 c898 a899 c900 a901 k910 k911 m v897 c902 a903
def g56l0D : LoopD := { n := 35, sl := [1, 2, 4, 6, 7], bl := [1002, 1004, 1006], tp := [(.vl (.sv (.int .i64))), (.vl (.sv (.ptr 1002 0))), (.vl (.sv (.ptr 1004 0))), (.vl (.sv (.ptr 1006 0))), (.vl (.sv (.int .i64)))], bp := [(true, [(.one .bool), (.seq (.int .u32) 6)]), (true, [(.one .bool), (.seq (.int .u32) 6)]), (true, [(.one .bool), (.seq (.int .u32) 6)])], xs := [(1, [4, 5], [1004]), (2, [4, 6], [1004, 1006])] }
def g56l0K {α : Type} (L : Int → Bool → (List Int) → Bool → (List Int) → (Int → (List Int) → Option α) → (Bool → (List Int) → Option α) → Int → Bool → (List Int) → Option α) (ls : List Lf) (k : Ex → St → Option α) : Option α :=
  L (lf ls 0).int (lf ls 2).bool ((lf ls 3).lst (.int .u32)) (lf ls 4).bool ((lf ls 5).lst (.int .u32))
    (fun y0 y2 => k .ret (mkSt 35 [4, 5] [(.vl (.sv (.ptr 1004 0))), (.vl (.sv (.int .i64 y0)))] [1004] [(true, [(.one (.bool false)), (.seq (.int .u32) 6 y2)])]))
    (fun y2 y3 => k .normal (mkSt 35 [4, 6] [(.vl (.sv (.ptr 1004 0))), (.vl (.sv (.ptr 1006 0)))] [1004, 1006] [(true, [(.one (.bool (lf ls 4).bool)), (.seq (.int .u32) 6 ((lf ls 5).lst (.int .u32)))]), (true, [(.one (.bool y2)), (.seq (.int .u32) 6 y3)])]))
    (lf ls 1).int (lf ls 6).bool ((lf ls 7).lst (.int .u32))
def g56b {α : Type} (G_g64 : {α : Type} → Bool → (List Int) → (Bool → Option α) → Option α) (G_g98 : {α : Type} → Int → (Bool → Option α) → Option α) (G_g66 : {α : Type} → Int → (Bool → (List Int) → Option α) → Option α) (G_g97 : {α : Type} → Bool → (List Int) → Bool → (List Int) → (Bool → (List Int) → Int → Option α) → Option α) (L_g56l0 : {α : Type} → Int → Bool → (List Int) → Bool → (List Int) → (Int → (List Int) → Option α) → (Bool → (List Int) → Option α) → Int → Bool → (List Int) → Option α) (q878 : Bool) (u879 : List Int) (p880 : Int) (k917 : Bool → (List Int) → Int → Option α) : Option α :=
  G_g64 q878 u879
    (fun b881 =>
      cond (!b881)
       (
        k917 false [0, 0, 0, 0, 0, 0] (1 : Int))
       (
        G_g98 p880
          (fun b892 =>
            cond (!b892)
             (
              k917 false [0, 0, 0, 0, 0, 0] (2 : Int))
             (
              G_g66 (1 : Int)
                (fun b894 l895 =>
                  L_g56l0 p880 q878 u879 false [0, 0, 0, 0, 0, 0]
                    (fun x913 l914 =>
                      k917 false l914 x913)
                    (fun b915 l916 =>
                      k917 b915 l916 (0 : Int))
                    (0 : Int) b894 l895)))))
def g56 {α : Type} (m : Nat) : Bool → (List Int) → Int → (Bool → (List Int) → Int → Option α) → Option α :=
  g56b (g64 m) (g98 m) (g66 m) (g97 m) (g56l0M m)
def g56tp : List TP := [(.vl (.agg [(.one .bool), (.seq (.int .u32) 6)])), (.vl (.sv (.int .i64)))]
def g56bp : List BP := []
def g56K {α : Type} (G : Bool → (List Int) → Int → (Bool → (List Int) → Int → Option α) → Option α) (ls : List Lf) (k : TV → List (List Seg) → List (List Seg) → Option α) : Option α :=
  G (lf ls 0).bool ((lf ls 1).lst (.int .u32)) (lf ls 2).int
    (fun y0 y1 y2 => k (.tup [(.agg [(.one (.bool y0)), (.seq (.int .u32) 6 y1)]), (.sv (.int .i64 y2))]) [] [])
def g56hd (G_g64 : {α : Type} → Bool → (List Int) → (Bool → Option α) → Option α) (G_g98 : {α : Type} → Int → (Bool → Option α) → Option α) (G_g66 : {α : Type} → Int → (Bool → (List Int) → Option α) → Option α) (G_g97 : {α : Type} → Bool → (List Int) → Bool → (List Int) → (Bool → (List Int) → Int → Option α) → Option α) (L_g56l0 : {α : Type} → Int → Bool → (List Int) → Bool → (List Int) → (Int → (List Int) → Option α) → (Bool → (List Int) → Option α) → Int → Bool → (List Int) → Option α) : Hd where
  call := fun f args Bs k => cond (Nat.beq f 64) (rowK g64tp g64bp (g64K G_g64) args Bs k) (cond (Nat.beq f 98) (rowK g98tp g98bp (g98K G_g98) args Bs k) (cond (Nat.beq f 66) (rowK g66tp g66bp (g66K G_g66) args Bs k) (cond (Nat.beq f 97) (rowK g97tp g97bp (g97K G_g97) args Bs k) (none))))
  loop := fun id st k => cond (Nat.beq id 0) (loopH g56l0D (g56l0K L_g56l0) st k) (none)
  ro := fun f => cond (Nat.beq f 64) [0] ([])
def g56h (m : Nat) : Hd := g56hd (g64 m) (g98 m) (g66 m) (g97 m) (g56l0M m)
theorem g56l0Step (G_g64 : {α : Type} → Bool → (List Int) → (Bool → Option α) → Option α) (G_g98 : {α : Type} → Int → (Bool → Option α) → Option α) (G_g66 : {α : Type} → Int → (Bool → (List Int) → Option α) → Option α) (G_g97 : {α : Type} → Bool → (List Int) → Bool → (List Int) → (Bool → (List Int) → Int → Option α) → Option α) (L_g56l0 : {α : Type} → Int → Bool → (List Int) → Bool → (List Int) → (Int → (List Int) → Option α) → (Bool → (List Int) → Option α) → Int → Bool → (List Int) → Option α) {α : Type} (L : Int → Bool → (List Int) → Bool → (List Int) → (Int → (List Int) → Option α) → (Bool → (List Int) → Option α) → Int → Bool → (List Int) → Option α) (ls : List Lf) (k : Ex → St → Option α) :
    g56l0K (fun v896 c898 a899 c900 a901 k910 k911 v897 c902 a903 => g56l0b G_g97 v896 c898 a899 c900 a901 k910 k911 (L v896 c898 a899 c900 a901 k910 k911) v897 c902 a903) ls k = ev tab (g56hd G_g64 G_g98 G_g66 G_g97 L_g56l0) (bodyAt Go.Proofs.Try.f56 0) (atHead g56l0D ls) (loopK g56l0D 0 (loopH g56l0D (g56l0K L)) k) := by kernel_rfl
theorem g56Main (G_g64 : {α : Type} → Bool → (List Int) → (Bool → Option α) → Option α) (G_g98 : {α : Type} → Int → (Bool → Option α) → Option α) (G_g66 : {α : Type} → Int → (Bool → (List Int) → Option α) → Option α) (G_g97 : {α : Type} → Bool → (List Int) → Bool → (List Int) → (Bool → (List Int) → Int → Option α) → Option α) (L_g56l0 : {α : Type} → Int → Bool → (List Int) → Bool → (List Int) → (Int → (List Int) → Option α) → (Bool → (List Int) → Option α) → Int → Bool → (List Int) → Option α) {α : Type} (ls : List Lf) (k : TV → List (List Seg) → List (List Seg) → Option α) :
    g56K (g56b G_g64 G_g98 G_g66 G_g97 L_g56l0) ls k = evFun tab (g56hd G_g64 G_g98 G_g66 G_g97 L_g56l0) Go.Proofs.Try.f56 (fillT g56tp ls).1 (fillB g56bp (fillT g56tp ls).2).1 k := by kernel_rfl
theorem g56Calls (m : Nat) : (g56h m).CallsOk Go.Proofs.Try.prog := (cok_cons (g64Ok m) (cok_cons (g98Ok m) (cok_cons (g66Ok m) (cok_cons (g97Ok m) cok_nil))))
theorem g56l0Ok (m : Nat) (α : Type) (st : St) (k : Ex → St → Option α) (r : α) (h : (g56h m).loop 0 st k = some r) :
    ∃ e st', k e st' = some r ∧ CodeS Go.Proofs.Try.prog (.block 0 (.loop (bodyAt Go.Proofs.Try.f56 0))) st e st' :=
  loop_ok (tab := tab) (h := g56h m) (F := fun n ls k => g56l0K (fun v896 c898 a899 c900 a901 k910 k911 v897 c902 a903 => g56l0 (g97 m) v896 c898 a899 c900 a901 k910 k911 n v897 c902 a903) ls k) tabOk (g56Calls m) mixed (loopsOk_of _ (fun p hp => by rw [show loopsOf (bodyAt Go.Proofs.Try.f56 0) = [] by kernel_rfl] at hp; cases hp))
    (fun _ _ => rfl) (fun n ls k => g56l0Step (g64 m) (g98 m) (g66 m) (g97 m) (g56l0M m) (fun v896 c898 a899 c900 a901 k910 k911 => g56l0 (g97 m) v896 c898 a899 c900 a901 k910 k911 n) ls k) (n := m) h
theorem g56Fn (m : Nat) : FnOk Go.Proofs.Try.prog 56 g56tp g56bp (fun {α} => g56K (g56 (α := α) m)) :=
  fn_ok (tab := tab) (h := g56h m) (fn := Go.Proofs.Try.f56) (F := fun {α} => g56K (g56 (α := α) m)) tabOk (g56Calls m) mixed (by kernel_rfl) (by kernel_rfl) (fun c hc => by
    rw [bodyOf_some hc]
    exact loopsOk_of _ (fun p hp => by
    rw [show loopsOf (bodyOf Go.Proofs.Try.f56) = [(0, bodyAt Go.Proofs.Try.f56 0)] by kernel_rfl] at hp
    simp only [List.mem_cons, List.not_mem_nil, or_false] at hp
    rcases hp with rfl
    exact g56l0Ok m))
    (fun α ls k => g56Main (g64 m) (g98 m) (g66 m) (g97 m) (g56l0M m) ls k)
theorem g56Ok (m : Nat) : RowOk Go.Proofs.Try.prog 56 (fun {α} => rowK g56tp g56bp (g56K (g56 (α := α) m))) := row_of (g56Fn m)

/-! ### g84: impl.within -/
def g84b {α : Type}   (p927 : Int) (p928 : Int) (p929 : Int) (k932 : Bool → Option α) : Option α :=
  cond (decide (p927 ≥ p928))
   (
    k932 (decide (p927 ≤ p929)))
   (
    k932 false)
def g84 {α : Type} (m : Nat) : Int → Int → Int → (Bool → Option α) → Option α :=
  g84b
def g84tp : List TP := [(.vl (.sv (.int .i64))), (.vl (.sv (.int .i64))), (.vl (.sv (.int .i64)))]
def g84bp : List BP := []
def g84K {α : Type} (G : Int → Int → Int → (Bool → Option α) → Option α) (ls : List Lf) (k : TV → List (List Seg) → List (List Seg) → Option α) : Option α :=
  G (lf ls 0).int (lf ls 1).int (lf ls 2).int
    (fun y0 => k (.vl (.sv (.bool y0))) [] [])
def g84hd   : Hd where
  call := fun f args Bs k => none
  loop := fun id st k => none
  ro := fun f => []
def g84h (m : Nat) : Hd := g84hd
theorem g84Main   {α : Type} (ls : List Lf) (k : TV → List (List Seg) → List (List Seg) → Option α) :
    g84K (g84b) ls k = evFun tab (g84hd) Go.Proofs.Try.f84 (fillT g84tp ls).1 (fillB g84bp (fillT g84tp ls).2).1 k := by kernel_rfl
theorem g84Calls (m : Nat) : (g84h m).CallsOk Go.Proofs.Try.prog := cok_nil
theorem g84Fn (m : Nat) : FnOk Go.Proofs.Try.prog 84 g84tp g84bp (fun {α} => g84K (g84 (α := α) m)) :=
  fn_ok (tab := tab) (h := g84h m) (fn := Go.Proofs.Try.f84) (F := fun {α} => g84K (g84 (α := α) m)) tabOk (g84Calls m) mixed (by kernel_rfl) (by kernel_rfl) (fun c hc => by
    rw [bodyOf_some hc]
    exact loopsOk_of _ (fun p hp => by rw [show loopsOf (bodyOf Go.Proofs.Try.f84) = [] by kernel_rfl] at hp; cases hp))
    (fun α ls k => g84Main ls k)
theorem g84Ok (m : Nat) : RowOk Go.Proofs.Try.prog 84 (fun {α} => rowK g84tp g84bp (g84K (g84 (α := α) m))) := row_of (g84Fn m)

/-! ### g42: impl.PowerWide -/
def g42l0b {α : Type} (G_g78 : {α : Type} → Bool → (List Int) → Bool → (List Int) → Bool → (Bool → (List Int) → Bool → Option α) → Option α)  (c938 : Bool) (a939 : List Int) (c940 : Bool) (a941 : List Int) (k950 : Bool → Bool → (List Int) → Option α) (r951 : Int → Bool → Bool → (List Int) → Option α) (v937 : Int) (c942 : Bool) (c943 : Bool) (a944 : List Int) : Option α :=
  cond (decide (v937 > (0 : Int)))
   (
    G_g78 c943 a944 c938 a939 c942
      (fun b946 l947 b948 =>
        r951 (IntKind.wrap .i64 (v937 - (1 : Int))) b948 b946 l947))
   (
    k950 c942 c943 a944)
def g42l0 {α : Type} (G_g78 : {α : Type} → Bool → (List Int) → Bool → (List Int) → Bool → (Bool → (List Int) → Bool → Option α) → Option α)  (c938 : Bool) (a939 : List Int) (c940 : Bool) (a941 : List Int) (k950 : Bool → Bool → (List Int) → Option α) : Nat → Int → Bool → Bool → (List Int) → Option α
  | 0 => fun _ _ _ _ => none
  | m + 1 => fun v937 c942 c943 a944 => g42l0b G_g78 c938 a939 c940 a941 k950 (g42l0 G_g78 c938 a939 c940 a941 k950 m) v937 c942 c943 a944
def g42l0M {α : Type} (m : Nat) : Bool → (List Int) → Bool → (List Int) → (Bool → Bool → (List Int) → Option α) → Int → Bool → Bool → (List Int) → Option α :=
  fun c938 a939 c940 a941 k950 v937 c942 c943 a944 => g42l0 (g78 m) c938 a939 c940 a941 k950 m v937 c942 c943 a944
def g42l0D : LoopD := { n := 29, sl := [1, 2, 4, 6, 7], bl := [1002, 1004, 1006, 1007], tp := [(.vl (.sv (.int .i64))), (.vl (.sv (.ptr 1002 0))), (.vl (.sv (.ptr 1004 0))), (.vl (.sv (.ptr 1006 0))), (.vl (.sv (.ptr 1007 0)))], bp := [(true, [(.one .bool), (.seq (.int .u32) 6)]), (true, [(.one .bool), (.seq (.int .u32) 6)]), (true, [(.one .bool)]), (true, [(.one .bool), (.seq (.int .u32) 6)])], xs := [(2, [4, 6, 7], [1004, 1006, 1007])] }
def g42l0K {α : Type} (L : Bool → (List Int) → Bool → (List Int) → (Bool → Bool → (List Int) → Option α) → Int → Bool → Bool → (List Int) → Option α) (ls : List Lf) (k : Ex → St → Option α) : Option α :=
  L (lf ls 1).bool ((lf ls 2).lst (.int .u32)) (lf ls 3).bool ((lf ls 4).lst (.int .u32))
    (fun y2 y3 y4 => k .normal (mkSt 29 [4, 6, 7] [(.vl (.sv (.ptr 1004 0))), (.vl (.sv (.ptr 1006 0))), (.vl (.sv (.ptr 1007 0)))] [1004, 1006, 1007] [(true, [(.one (.bool (lf ls 3).bool)), (.seq (.int .u32) 6 ((lf ls 4).lst (.int .u32)))]), (true, [(.one (.bool y2))]), (true, [(.one (.bool y3)), (.seq (.int .u32) 6 y4)])]))
    (lf ls 0).int (lf ls 5).bool (lf ls 6).bool ((lf ls 7).lst (.int .u32))
def g42b {α : Type} (G_g24 : {α : Type} → Bool → (List Int) → (Bool → Option α) → Option α) (G_g84 : {α : Type} → Int → Int → Int → (Bool → Option α) → Option α) (G_g26 : {α : Type} → Int → (Bool → (List Int) → Option α) → Option α) (G_g78 : {α : Type} → Bool → (List Int) → Bool → (List Int) → Bool → (Bool → (List Int) → Bool → Option α) → Option α) (G_g74 : {α : Type} → Bool → (List Int) → Bool → (Bool → (List Int) → Int → Option α) → Option α) (L_g42l0 : {α : Type} → Bool → (List Int) → Bool → (List Int) → (Bool → Bool → (List Int) → Option α) → Int → Bool → Bool → (List Int) → Option α) (q922 : Bool) (u923 : List Int) (p924 : Int) (k958 : Bool → (List Int) → Int → Option α) : Option α :=
  G_g24 q922 u923
    (fun b925 =>
      cond (!b925)
       (
        k958 false [0, 0, 0, 0, 0, 0] (1 : Int))
       (
        G_g84 p924 (0 : Int) (191 : Int)
          (fun b933 =>
            cond (!b933)
             (
              k958 false [0, 0, 0, 0, 0, 0] (2 : Int))
             (
              G_g26 (1 : Int)
                (fun b935 l936 =>
                  L_g42l0 q922 u923 false [0, 0, 0, 0, 0, 0]
                    (fun b952 b953 l954 =>
                      G_g74 b953 l954 b952
                        (fun b955 l956 x957 =>
                          k958 b955 l956 x957))
                    p924 false b935 l936)))))
def g42 {α : Type} (m : Nat) : Bool → (List Int) → Int → (Bool → (List Int) → Int → Option α) → Option α :=
  g42b (g24 m) (g84 m) (g26 m) (g78 m) (g74 m) (g42l0M m)
def g42tp : List TP := [(.vl (.agg [(.one .bool), (.seq (.int .u32) 6)])), (.vl (.sv (.int .i64)))]
def g42bp : List BP := []
def g42K {α : Type} (G : Bool → (List Int) → Int → (Bool → (List Int) → Int → Option α) → Option α) (ls : List Lf) (k : TV → List (List Seg) → List (List Seg) → Option α) : Option α :=
  G (lf ls 0).bool ((lf ls 1).lst (.int .u32)) (lf ls 2).int
    (fun y0 y1 y2 => k (.tup [(.agg [(.one (.bool y0)), (.seq (.int .u32) 6 y1)]), (.sv (.int .i64 y2))]) [] [])
def g42hd (G_g24 : {α : Type} → Bool → (List Int) → (Bool → Option α) → Option α) (G_g84 : {α : Type} → Int → Int → Int → (Bool → Option α) → Option α) (G_g26 : {α : Type} → Int → (Bool → (List Int) → Option α) → Option α) (G_g78 : {α : Type} → Bool → (List Int) → Bool → (List Int) → Bool → (Bool → (List Int) → Bool → Option α) → Option α) (G_g74 : {α : Type} → Bool → (List Int) → Bool → (Bool → (List Int) → Int → Option α) → Option α) (L_g42l0 : {α : Type} → Bool → (List Int) → Bool → (List Int) → (Bool → Bool → (List Int) → Option α) → Int → Bool → Bool → (List Int) → Option α) : Hd where
  call := fun f args Bs k => cond (Nat.beq f 24) (rowK g24tp g24bp (g24K G_g24) args Bs k) (cond (Nat.beq f 84) (rowK g84tp g84bp (g84K G_g84) args Bs k) (cond (Nat.beq f 26) (rowK g26tp g26bp (g26K G_g26) args Bs k) (cond (Nat.beq f 78) (rowK g78tp g78bp (g78K G_g78) args Bs k) (cond (Nat.beq f 74) (rowK g74tp g74bp (g74K G_g74) args Bs k) (none)))))
  loop := fun id st k => cond (Nat.beq id 0) (loopH g42l0D (g42l0K L_g42l0) st k) (none)
  ro := fun f => cond (Nat.beq f 74) [0] ([])
def g42h (m : Nat) : Hd := g42hd (g24 m) (g84 m) (g26 m) (g78 m) (g74 m) (g42l0M m)
theorem g42l0Step (G_g24 : {α : Type} → Bool → (List Int) → (Bool → Option α) → Option α) (G_g84 : {α : Type} → Int → Int → Int → (Bool → Option α) → Option α) (G_g26 : {α : Type} → Int → (Bool → (List Int) → Option α) → Option α) (G_g78 : {α : Type} → Bool → (List Int) → Bool → (List Int) → Bool → (Bool → (List Int) → Bool → Option α) → Option α) (G_g74 : {α : Type} → Bool → (List Int) → Bool → (Bool → (List Int) → Int → Option α) → Option α) (L_g42l0 : {α : Type} → Bool → (List Int) → Bool → (List Int) → (Bool → Bool → (List Int) → Option α) → Int → Bool → Bool → (List Int) → Option α) {α : Type} (L : Bool → (List Int) → Bool → (List Int) → (Bool → Bool → (List Int) → Option α) → Int → Bool → Bool → (List Int) → Option α) (ls : List Lf) (k : Ex → St → Option α) :
    g42l0K (fun c938 a939 c940 a941 k950 v937 c942 c943 a944 => g42l0b G_g78 c938 a939 c940 a941 k950 (L c938 a939 c940 a941 k950) v937 c942 c943 a944) ls k = ev tab (g42hd G_g24 G_g84 G_g26 G_g78 G_g74 L_g42l0) (bodyAt Go.Proofs.Try.f42 0) (atHead g42l0D ls) (loopK g42l0D 0 (loopH g42l0D (g42l0K L)) k) := by kernel_rfl
theorem g42Main (G_g24 : {α : Type} → Bool → (List Int) → (Bool → Option α) → Option α) (G_g84 : {α : Type} → Int → Int → Int → (Bool → Option α) → Option α) (G_g26 : {α : Type} → Int → (Bool → (List Int) → Option α) → Option α) (G_g78 : {α : Type} → Bool → (List Int) → Bool → (List Int) → Bool → (Bool → (List Int) → Bool → Option α) → Option α) (G_g74 : {α : Type} → Bool → (List Int) → Bool → (Bool → (List Int) → Int → Option α) → Option α) (L_g42l0 : {α : Type} → Bool → (List Int) → Bool → (List Int) → (Bool → Bool → (List Int) → Option α) → Int → Bool → Bool → (List Int) → Option α) {α : Type} (ls : List Lf) (k : TV → List (List Seg) → List (List Seg) → Option α) :
    g42K (g42b G_g24 G_g84 G_g26 G_g78 G_g74 L_g42l0) ls k = evFun tab (g42hd G_g24 G_g84 G_g26 G_g78 G_g74 L_g42l0) Go.Proofs.Try.f42 (fillT g42tp ls).1 (fillB g42bp (fillT g42tp ls).2).1 k := by kernel_rfl
theorem g42Calls (m : Nat) : (g42h m).CallsOk Go.Proofs.Try.prog := (cok_cons (g24Ok m) (cok_cons (g84Ok m) (cok_cons (g26Ok m) (cok_cons (g78Ok m) (cok_cons (g74Ok m) cok_nil)))))
theorem g42l0Ok (m : Nat) (α : Type) (st : St) (k : Ex → St → Option α) (r : α) (h : (g42h m).loop 0 st k = some r) :
    ∃ e st', k e st' = some r ∧ CodeS Go.Proofs.Try.prog (.block 0 (.loop (bodyAt Go.Proofs.Try.f42 0))) st e st' :=
  loop_ok (tab := tab) (h := g42h m) (F := fun n ls k => g42l0K (fun c938 a939 c940 a941 k950 v937 c942 c943 a944 => g42l0 (g78 m) c938 a939 c940 a941 k950 n v937 c942 c943 a944) ls k) tabOk (g42Calls m) mixed (loopsOk_of _ (fun p hp => by rw [show loopsOf (bodyAt Go.Proofs.Try.f42 0) = [] by kernel_rfl] at hp; cases hp))
    (fun _ _ => rfl) (fun n ls k => g42l0Step (g24 m) (g84 m) (g26 m) (g78 m) (g74 m) (g42l0M m) (fun c938 a939 c940 a941 k950 => g42l0 (g78 m) c938 a939 c940 a941 k950 n) ls k) (n := m) h
theorem g42Fn (m : Nat) : FnOk Go.Proofs.Try.prog 42 g42tp g42bp (fun {α} => g42K (g42 (α := α) m)) :=
  fn_ok (tab := tab) (h := g42h m) (fn := Go.Proofs.Try.f42) (F := fun {α} => g42K (g42 (α := α) m)) tabOk (g42Calls m) mixed (by kernel_rfl) (by kernel_rfl) (fun c hc => by
    rw [bodyOf_some hc]
    exact loopsOk_of _ (fun p hp => by
    rw [show loopsOf (bodyOf Go.Proofs.Try.f42) = [(0, bodyAt Go.Proofs.Try.f42 0)] by kernel_rfl] at hp
    simp only [List.mem_cons, List.not_mem_nil, or_false] at hp
    rcases hp with rfl
    exact g42l0Ok m))
    (fun α ls k => g42Main (g24 m) (g84 m) (g26 m) (g78 m) (g74 m) (g42l0M m) ls k)
theorem g42Ok (m : Nat) : RowOk Go.Proofs.Try.prog 42 (fun {α} => rowK g42tp g42bp (g42K (g42 (α := α) m))) := row_of (g42Fn m)

/-! ### g12: laws.FnExactPowerWide -/
def g12b {α : Type} (G_g23 : {α : Type} → Bool → (List Int) → ((List Int) → Option α) → Option α) (G_g56 : {α : Type} → Bool → (List Int) → Int → (Bool → (List Int) → Int → Option α) → Option α) (G_g42 : {α : Type} → Bool → (List Int) → Int → (Bool → (List Int) → Int → Option α) → Option α) (G_g27 : {α : Type} → Bool → (List Int) → Bool → (List Int) → (Bool → Option α) → Option α)  (q874 : Bool) (u875 : List Int) (p876 : Int) (k965 : Bool → Option α) : Option α :=
  G_g23 q874 u875
    (fun l877 =>
      G_g56 q874 l877 p876
        (fun b918 l919 x920 =>
          G_g23 q874 u875
            (fun l921 =>
              G_g42 q874 l921 p876
                (fun b959 l960 x961 =>
                  G_g27 b959 l960 b918 l919
                    (fun b962 =>
                      cond (!b962)
                       (
                        k965 false)
                       (
                        cond (x961 != x920)
                         (
                          k965 false)
                         (
                          k965 true)))))))
def g12 {α : Type} (m : Nat) : Bool → (List Int) → Int → (Bool → Option α) → Option α :=
  g12b (g23 m) (g56 m) (g42 m) (g27 m)
def g12tp : List TP := [(.vl (.agg [(.one .bool), (.seq (.int .u32) 6)])), (.vl (.sv (.int .i64)))]
def g12bp : List BP := []
def g12K {α : Type} (G : Bool → (List Int) → Int → (Bool → Option α) → Option α) (ls : List Lf) (k : TV → List (List Seg) → List (List Seg) → Option α) : Option α :=
  G (lf ls 0).bool ((lf ls 1).lst (.int .u32)) (lf ls 2).int
    (fun y0 => k (.vl (.sv (.bool y0))) [] [])
def g12hd (G_g23 : {α : Type} → Bool → (List Int) → ((List Int) → Option α) → Option α) (G_g56 : {α : Type} → Bool → (List Int) → Int → (Bool → (List Int) → Int → Option α) → Option α) (G_g42 : {α : Type} → Bool → (List Int) → Int → (Bool → (List Int) → Int → Option α) → Option α) (G_g27 : {α : Type} → Bool → (List Int) → Bool → (List Int) → (Bool → Option α) → Option α)  : Hd where
  call := fun f args Bs k => cond (Nat.beq f 23) (rowK g23tp g23bp (g23K G_g23) args Bs k) (cond (Nat.beq f 56) (rowK g56tp g56bp (g56K G_g56) args Bs k) (cond (Nat.beq f 42) (rowK g42tp g42bp (g42K G_g42) args Bs k) (cond (Nat.beq f 27) (rowK g27tp g27bp (g27K G_g27) args Bs k) (none))))
  loop := fun id st k => none
  ro := fun f => []
def g12h (m : Nat) : Hd := g12hd (g23 m) (g56 m) (g42 m) (g27 m)
theorem g12Main (G_g23 : {α : Type} → Bool → (List Int) → ((List Int) → Option α) → Option α) (G_g56 : {α : Type} → Bool → (List Int) → Int → (Bool → (List Int) → Int → Option α) → Option α) (G_g42 : {α : Type} → Bool → (List Int) → Int → (Bool → (List Int) → Int → Option α) → Option α) (G_g27 : {α : Type} → Bool → (List Int) → Bool → (List Int) → (Bool → Option α) → Option α)  {α : Type} (ls : List Lf) (k : TV → List (List Seg) → List (List Seg) → Option α) :
    g12K (g12b G_g23 G_g56 G_g42 G_g27) ls k = evFun tab (g12hd G_g23 G_g56 G_g42 G_g27) Go.Proofs.Try.f12 (fillT g12tp ls).1 (fillB g12bp (fillT g12tp ls).2).1 k := by kernel_rfl
theorem g12Calls (m : Nat) : (g12h m).CallsOk Go.Proofs.Try.prog := (cok_cons (g23Ok m) (cok_cons (g56Ok m) (cok_cons (g42Ok m) (cok_cons (g27Ok m) cok_nil))))
theorem g12Fn (m : Nat) : FnOk Go.Proofs.Try.prog 12 g12tp g12bp (fun {α} => g12K (g12 (α := α) m)) :=
  fn_ok (tab := tab) (h := g12h m) (fn := Go.Proofs.Try.f12) (F := fun {α} => g12K (g12 (α := α) m)) tabOk (g12Calls m) mixed (by kernel_rfl) (by kernel_rfl) (fun c hc => by
    rw [bodyOf_some hc]
    exact loopsOk_of _ (fun p hp => by rw [show loopsOf (bodyOf Go.Proofs.Try.f12) = [] by kernel_rfl] at hp; cases hp))
    (fun α ls k => g12Main (g23 m) (g56 m) (g42 m) (g27 m) ls k)
theorem g12Ok (m : Nat) : RowOk Go.Proofs.Try.prog 12 (fun {α} => rowK g12tp g12bp (g12K (g12 (α := α) m))) := row_of (g12Fn m)

/-! ### g121: spec.l01UpMag -/
def g121l0b {α : Type}   (v987 : Int) (a989 : List Int) (a990 : List Int) (k1015 : (List Int) → Option α) (r1016 : Int → (List Int) → Option α) (v988 : Int) (a991 : List Int) : Option α :=
  cond (decide (v988 < (6 : Int)))
   (
    let x994 : Int := IntKind.wrap .i64 (v988 + (IntKind.wrap .i64 (Int.tdiv v987 (32 : Int))))
    cond (decide (x994 ≥ (6 : Int)))
     (
      k1015 a991)
     (
      if 0 ≤ v988 ∧ v988 < (6 : Nat) then
        if v988.toNat < 6 then
          let x999 : Int := IntKind.wrap .u64 (Int.tmod v987 (32 : Int))
          if x999 < 0 then
            none
          else
            let x1000 : Int := IntKind.wrap .u64 ((IntKind.wrap .u64 (List.getD a989 v988.toNat 0)) * 2 ^ (min x999.toNat 64))
            if 0 ≤ x994 ∧ x994 < (6 : Nat) then
              if x994.toNat < 6 then
                if 0 ≤ x994 ∧ x994 < (6 : Nat) then
                  if x994.toNat < 6 then
                    let l1004 : List Int := List.set a991 (x994.toNat) (ibits .or .u32 (List.getD a991 x994.toNat 0) (IntKind.wrap .u32 x1000))
                    cond (decide ((IntKind.wrap .i64 (x994 + (1 : Int))) < (6 : Int)))
                     (
                      let x1007 : Int := IntKind.wrap .i64 (x994 + (1 : Int))
                      if 0 ≤ x1007 ∧ x1007 < (6 : Nat) then
                        if x1007.toNat < 6 then
                          if 0 ≤ x1007 ∧ x1007 < (6 : Nat) then
                            if x1007.toNat < 6 then
                              r1016 (IntKind.wrap .i64 (v988 + (1 : Int))) (List.set l1004 (x1007.toNat) (ibits .or .u32 (List.getD l1004 x1007.toNat 0) (IntKind.wrap .u32 (Int.fdiv x1000 (2 ^ 32)))))
                            else
                              none
                          else
                            none
                        else
                          none
                      else
                        none)
                     (
                      r1016 (IntKind.wrap .i64 (v988 + (1 : Int))) l1004)
                  else
                    none
                else
                  none
              else
                none
            else
              none
        else
          none
      else
        none))
   (
    k1015 a991)
def g121l0 {α : Type}   (v987 : Int) (a989 : List Int) (a990 : List Int) (k1015 : (List Int) → Option α) : Nat → Int → (List Int) → Option α
  | 0 => fun _ _ => none
  | m + 1 => fun v988 a991 => g121l0b v987 a989 a990 k1015 (g121l0 v987 a989 a990 k1015 m) v988 a991
def g121l0M {α : Type} (m : Nat) : Int → (List Int) → (List Int) → ((List Int) → Option α) → Int → (List Int) → Option α :=
  fun v987 a989 a990 k1015 v988 a991 => g121l0 v987 a989 a990 k1015 m v988 a991
def g121l0D : LoopD := { n := 62, sl := [0, 1, 4, 6, 7], bl := [0, 1004, 1006], tp := [(.vl (.sv (.ptr 0 0))), (.vl (.sv (.int .i64))), (.vl (.sv (.ptr 1004 0))), (.vl (.sv (.ptr 1006 0))), (.vl (.sv (.int .i64)))], bp := [(false, [(.seq (.int .u32) 6)]), (true, [(.seq (.int .u32) 6)]), (true, [(.seq (.int .u32) 6)])], xs := [(2, [4, 6], [0, 1004, 1006])] }
def g121l0K {α : Type} (L : Int → (List Int) → (List Int) → ((List Int) → Option α) → Int → (List Int) → Option α) (ls : List Lf) (k : Ex → St → Option α) : Option α :=
  L (lf ls 0).int ((lf ls 2).lst (.int .u32)) ((lf ls 3).lst (.int .u32))
    (fun y2 => k .normal (mkSt 62 [4, 6] [(.vl (.sv (.ptr 1004 0))), (.vl (.sv (.ptr 1006 0)))] [0, 1004, 1006] [(false, [(.seq (.int .u32) 6 ((lf ls 2).lst (.int .u32)))]), (true, [(.seq (.int .u32) 6 ((lf ls 3).lst (.int .u32)))]), (true, [(.seq (.int .u32) 6 y2)])]))
    (lf ls 1).int ((lf ls 4).lst (.int .u32))
def g121b {α : Type} (G_g93 : {α : Type} → (List Int) → (Int → Option α) → Option α) (G_g101 : {α : Type} → (List Int) → (Bool → Option α) → Option α) (L_g121l0 : {α : Type} → Int → (List Int) → (List Int) → ((List Int) → Option α) → Int → (List Int) → Option α) (p980 : Int) (u981 : List Int) (k1019 : (List Int) → Bool → Option α) : Option α :=
  G_g93 u981
    (fun x982 =>
      cond (decide ((IntKind.wrap .i64 (x982 + p980)) > (192 : Int)))
       (
        G_g101 u981
          (fun b985 =>
            cond (!b985)
             (
              k1019 [0, 0, 0, 0, 0, 0] false)
             (
              L_g121l0 p980 u981 [0, 0, 0, 0, 0, 0]
                (fun l1017 =>
                  k1019 l1017 true)
                (0 : Int) [0, 0, 0, 0, 0, 0])))
       (
        L_g121l0 p980 u981 [0, 0, 0, 0, 0, 0]
          (fun l1018 =>
            k1019 l1018 true)
          (0 : Int) [0, 0, 0, 0, 0, 0]))
def g121 {α : Type} (m : Nat) : Int → (List Int) → ((List Int) → Bool → Option α) → Option α :=
  g121b (g93 m) (g101 m) (g121l0M m)
def g121tp : List TP := [(.vl (.sv (.ptr 0 0))), (.vl (.sv (.int .i64)))]
def g121bp : List BP := [(false, [(.seq (.int .u32) 6)])]
def g121K {α : Type} (G : Int → (List Int) → ((List Int) → Bool → Option α) → Option α) (ls : List Lf) (k : TV → List (List Seg) → List (List Seg) → Option α) : Option α :=
  G (lf ls 0).int ((lf ls 1).lst (.int .u32))
    (fun y0 y1 => k (.tup [(.agg [(.seq (.int .u32) 6 y0)]), (.sv (.bool y1))]) [[(.seq (.int .u32) 6 ((lf ls 1).lst (.int .u32)))]] [])
def g121hd (G_g93 : {α : Type} → (List Int) → (Int → Option α) → Option α) (G_g101 : {α : Type} → (List Int) → (Bool → Option α) → Option α) (L_g121l0 : {α : Type} → Int → (List Int) → (List Int) → ((List Int) → Option α) → Int → (List Int) → Option α) : Hd where
  call := fun f args Bs k => cond (Nat.beq f 93) (rowK g93tp g93bp (g93K G_g93) args Bs k) (cond (Nat.beq f 101) (rowK g101tp g101bp (g101K G_g101) args Bs k) (none))
  loop := fun id st k => cond (Nat.beq id 0) (loopH g121l0D (g121l0K L_g121l0) st k) (none)
  ro := fun f => cond (Nat.beq f 93) [0] (cond (Nat.beq f 101) [0] ([]))
def g121h (m : Nat) : Hd := g121hd (g93 m) (g101 m) (g121l0M m)
theorem g121l0Step (G_g93 : {α : Type} → (List Int) → (Int → Option α) → Option α) (G_g101 : {α : Type} → (List Int) → (Bool → Option α) → Option α) (L_g121l0 : {α : Type} → Int → (List Int) → (List Int) → ((List Int) → Option α) → Int → (List Int) → Option α) {α : Type} (L : Int → (List Int) → (List Int) → ((List Int) → Option α) → Int → (List Int) → Option α) (ls : List Lf) (k : Ex → St → Option α) :
    g121l0K (fun v987 a989 a990 k1015 v988 a991 => g121l0b v987 a989 a990 k1015 (L v987 a989 a990 k1015) v988 a991) ls k = ev tab (g121hd G_g93 G_g101 L_g121l0) (bodyAt Go.Proofs.Try.f121 0) (atHead g121l0D ls) (loopK g121l0D 0 (loopH g121l0D (g121l0K L)) k) := by kernel_rfl
theorem g121Main (G_g93 : {α : Type} → (List Int) → (Int → Option α) → Option α) (G_g101 : {α : Type} → (List Int) → (Bool → Option α) → Option α) (L_g121l0 : {α : Type} → Int → (List Int) → (List Int) → ((List Int) → Option α) → Int → (List Int) → Option α) {α : Type} (ls : List Lf) (k : TV → List (List Seg) → List (List Seg) → Option α) :
    g121K (g121b G_g93 G_g101 L_g121l0) ls k = evFun tab (g121hd G_g93 G_g101 L_g121l0) Go.Proofs.Try.f121 (fillT g121tp ls).1 (fillB g121bp (fillT g121tp ls).2).1 k := by kernel_rfl
theorem g121Calls (m : Nat) : (g121h m).CallsOk Go.Proofs.Try.prog := (cok_cons (g93Ok m) (cok_cons (g101Ok m) cok_nil))
theorem g121l0Ok (m : Nat) (α : Type) (st : St) (k : Ex → St → Option α) (r : α) (h : (g121h m).loop 0 st k = some r) :
    ∃ e st', k e st' = some r ∧ CodeS Go.Proofs.Try.prog (.block 0 (.loop (bodyAt Go.Proofs.Try.f121 0))) st e st' :=
  loop_ok (tab := tab) (h := g121h m) (F := fun n ls k => g121l0K (fun v987 a989 a990 k1015 v988 a991 => g121l0 v987 a989 a990 k1015 n v988 a991) ls k) tabOk (g121Calls m) mixed (loopsOk_of _ (fun p hp => by rw [show loopsOf (bodyAt Go.Proofs.Try.f121 0) = [] by kernel_rfl] at hp; cases hp))
    (fun _ _ => rfl) (fun n ls k => g121l0Step (g93 m) (g101 m) (g121l0M m) (fun v987 a989 a990 k1015 => g121l0 v987 a989 a990 k1015 n) ls k) (n := m) h
theorem g121Fn (m : Nat) : FnOk Go.Proofs.Try.prog 121 g121tp g121bp (fun {α} => g121K (g121 (α := α) m)) :=
  fn_ok (tab := tab) (h := g121h m) (fn := Go.Proofs.Try.f121) (F := fun {α} => g121K (g121 (α := α) m)) tabOk (g121Calls m) mixed (by kernel_rfl) (by kernel_rfl) (fun c hc => by
    rw [bodyOf_some hc]
    exact loopsOk_of _ (fun p hp => by
    rw [show loopsOf (bodyOf Go.Proofs.Try.f121) = [(0, bodyAt Go.Proofs.Try.f121 0)] by kernel_rfl] at hp
    simp only [List.mem_cons, List.not_mem_nil, or_false] at hp
    rcases hp with rfl
    exact g121l0Ok m))
    (fun α ls k => g121Main (g93 m) (g101 m) (g121l0M m) ls k)
theorem g121Ok (m : Nat) : RowOk Go.Proofs.Try.prog 121 (fun {α} => rowK g121tp g121bp (g121K (g121 (α := α) m))) := row_of (g121Fn m)

/-! ### g99: spec.l01Up -/
def g99b {α : Type} (G_g121 : {α : Type} → Int → (List Int) → ((List Int) → Bool → Option α) → Option α) (G_g71 : {α : Type} → Bool → (List Int) → (Bool → Option α) → Option α)  (q977 : Bool) (u978 : List Int) (p979 : Int) (k1024 : Bool → (List Int) → Int → Option α) : Option α :=
  G_g121 p979 u978
    (fun l1020 b1021 =>
      cond (!b1021)
       (
        k1024 false [0, 0, 0, 0, 0, 0] (3 : Int))
       (
        G_g71 q977 l1020
          (fun b1023 =>
            k1024 b1023 l1020 (0 : Int))))
def g99 {α : Type} (m : Nat) : Bool → (List Int) → Int → (Bool → (List Int) → Int → Option α) → Option α :=
  g99b (g121 m) (g71 m)
def g99tp : List TP := [(.vl (.agg [(.one .bool), (.seq (.int .u32) 6)])), (.vl (.sv (.int .i64)))]
def g99bp : List BP := []
def g99K {α : Type} (G : Bool → (List Int) → Int → (Bool → (List Int) → Int → Option α) → Option α) (ls : List Lf) (k : TV → List (List Seg) → List (List Seg) → Option α) : Option α :=
  G (lf ls 0).bool ((lf ls 1).lst (.int .u32)) (lf ls 2).int
    (fun y0 y1 y2 => k (.tup [(.agg [(.one (.bool y0)), (.seq (.int .u32) 6 y1)]), (.sv (.int .i64 y2))]) [] [])
def g99hd (G_g121 : {α : Type} → Int → (List Int) → ((List Int) → Bool → Option α) → Option α) (G_g71 : {α : Type} → Bool → (List Int) → (Bool → Option α) → Option α)  : Hd where
  call := fun f args Bs k => cond (Nat.beq f 121) (rowK g121tp g121bp (g121K G_g121) args Bs k) (cond (Nat.beq f 71) (rowK g71tp g71bp (g71K G_g71) args Bs k) (none))
  loop := fun id st k => none
  ro := fun f => cond (Nat.beq f 121) [0] ([])
def g99h (m : Nat) : Hd := g99hd (g121 m) (g71 m)
theorem g99Main (G_g121 : {α : Type} → Int → (List Int) → ((List Int) → Bool → Option α) → Option α) (G_g71 : {α : Type} → Bool → (List Int) → (Bool → Option α) → Option α)  {α : Type} (ls : List Lf) (k : TV → List (List Seg) → List (List Seg) → Option α) :
    g99K (g99b G_g121 G_g71) ls k = evFun tab (g99hd G_g121 G_g71) Go.Proofs.Try.f99 (fillT g99tp ls).1 (fillB g99bp (fillT g99tp ls).2).1 k := by kernel_rfl
theorem g99Calls (m : Nat) : (g99h m).CallsOk Go.Proofs.Try.prog := (cok_cons (g121Ok m) (cok_cons (g71Ok m) cok_nil))
theorem g99Fn (m : Nat) : FnOk Go.Proofs.Try.prog 99 g99tp g99bp (fun {α} => g99K (g99 (α := α) m)) :=
  fn_ok (tab := tab) (h := g99h m) (fn := Go.Proofs.Try.f99) (F := fun {α} => g99K (g99 (α := α) m)) tabOk (g99Calls m) mixed (by kernel_rfl) (by kernel_rfl) (fun c hc => by
    rw [bodyOf_some hc]
    exact loopsOk_of _ (fun p hp => by rw [show loopsOf (bodyOf Go.Proofs.Try.f99) = [] by kernel_rfl] at hp; cases hp))
    (fun α ls k => g99Main (g121 m) (g71 m) ls k)
theorem g99Ok (m : Nat) : RowOk Go.Proofs.Try.prog 99 (fun {α} => rowK g99tp g99bp (g99K (g99 (α := α) m))) := row_of (g99Fn m)

/-! ### g57: spec.ShiftUp -/
def g57b {α : Type} (G_g64 : {α : Type} → Bool → (List Int) → (Bool → Option α) → Option α) (G_g98 : {α : Type} → Int → (Bool → Option α) → Option α) (G_g99 : {α : Type} → Bool → (List Int) → Int → (Bool → (List Int) → Int → Option α) → Option α)  (q970 : Bool) (u971 : List Int) (p972 : Int) (k1028 : Bool → (List Int) → Int → Option α) : Option α :=
  G_g64 q970 u971
    (fun b973 =>
      cond (!b973)
       (
        k1028 false [0, 0, 0, 0, 0, 0] (1 : Int))
       (
        G_g98 p972
          (fun b975 =>
            cond (!b975)
             (
              k1028 false [0, 0, 0, 0, 0, 0] (2 : Int))
             (
              G_g99 q970 u971 p972
                (fun b1025 l1026 x1027 =>
                  k1028 b1025 l1026 x1027)))))
def g57 {α : Type} (m : Nat) : Bool → (List Int) → Int → (Bool → (List Int) → Int → Option α) → Option α :=
  g57b (g64 m) (g98 m) (g99 m)
def g57tp : List TP := [(.vl (.agg [(.one .bool), (.seq (.int .u32) 6)])), (.vl (.sv (.int .i64)))]
def g57bp : List BP := []
def g57K {α : Type} (G : Bool → (List Int) → Int → (Bool → (List Int) → Int → Option α) → Option α) (ls : List Lf) (k : TV → List (List Seg) → List (List Seg) → Option α) : Option α :=
  G (lf ls 0).bool ((lf ls 1).lst (.int .u32)) (lf ls 2).int
    (fun y0 y1 y2 => k (.tup [(.agg [(.one (.bool y0)), (.seq (.int .u32) 6 y1)]), (.sv (.int .i64 y2))]) [] [])
def g57hd (G_g64 : {α : Type} → Bool → (List Int) → (Bool → Option α) → Option α) (G_g98 : {α : Type} → Int → (Bool → Option α) → Option α) (G_g99 : {α : Type} → Bool → (List Int) → Int → (Bool → (List Int) → Int → Option α) → Option α)  : Hd where
  call := fun f args Bs k => cond (Nat.beq f 64) (rowK g64tp g64bp (g64K G_g64) args Bs k) (cond (Nat.beq f 98) (rowK g98tp g98bp (g98K G_g98) args Bs k) (cond (Nat.beq f 99) (rowK g99tp g99bp (g99K G_g99) args Bs k) (none)))
  loop := fun id st k => none
  ro := fun f => cond (Nat.beq f 64) [0] ([])
def g57h (m : Nat) : Hd := g57hd (g64 m) (g98 m) (g99 m)
theorem g57Main (G_g64 : {α : Type} → Bool → (List Int) → (Bool → Option α) → Option α) (G_g98 : {α : Type} → Int → (Bool → Option α) → Option α) (G_g99 : {α : Type} → Bool → (List Int) → Int → (Bool → (List Int) → Int → Option α) → Option α)  {α : Type} (ls : List Lf) (k : TV → List (List Seg) → List (List Seg) → Option α) :
    g57K (g57b G_g64 G_g98 G_g99) ls k = evFun tab (g57hd G_g64 G_g98 G_g99) Go.Proofs.Try.f57 (fillT g57tp ls).1 (fillB g57bp (fillT g57tp ls).2).1 k := by kernel_rfl
theorem g57Calls (m : Nat) : (g57h m).CallsOk Go.Proofs.Try.prog := (cok_cons (g64Ok m) (cok_cons (g98Ok m) (cok_cons (g99Ok m) cok_nil)))
theorem g57Fn (m : Nat) : FnOk Go.Proofs.Try.prog 57 g57tp g57bp (fun {α} => g57K (g57 (α := α) m)) :=
  fn_ok (tab := tab) (h := g57h m) (fn := Go.Proofs.Try.f57) (F := fun {α} => g57K (g57 (α := α) m)) tabOk (g57Calls m) mixed (by kernel_rfl) (by kernel_rfl) (fun c hc => by
    rw [bodyOf_some hc]
    exact loopsOk_of _ (fun p hp => by rw [show loopsOf (bodyOf Go.Proofs.Try.f57) = [] by kernel_rfl] at hp; cases hp))
    (fun α ls k => g57Main (g64 m) (g98 m) (g99 m) ls k)
theorem g57Ok (m : Nat) : RowOk Go.Proofs.Try.prog 57 (fun {α} => rowK g57tp g57bp (g57K (g57 (α := α) m))) := row_of (g57Fn m)

/-! ### g117: (impl.size).up -/
def g117l0b {α : Type}   (v1052 : Int) (v1053 : Int) (a1055 : List Int) (a1056 : List Int) (k1076 : (List Int) → Option α) (r1077 : Int → (List Int) → Option α) (v1054 : Int) (a1057 : List Int) : Option α :=
  cond (decide (v1054 ≥ v1052))
   (
    let x1059 : Int := IntKind.wrap .i64 (v1054 - v1052)
    if 0 ≤ x1059 ∧ x1059 < (6 : Nat) then
      if x1059.toNat < 6 then
        if v1053 < 0 then
          none
        else
          if 0 ≤ v1054 ∧ v1054 < (6 : Nat) then
            if v1054.toNat < 6 then
              let l1062 : List Int := List.set a1057 (v1054.toNat) (IntKind.wrap .u32 ((List.getD a1055 x1059.toNat 0) * 2 ^ (min v1053.toNat 32)))
              cond (decide (v1053 > (0 : Int)))
               (
                cond (decide (v1054 > v1052))
                 (
                  if 0 ≤ v1054 ∧ v1054 < (6 : Nat) then
                    if v1054.toNat < 6 then
                      let x1067 : Int := IntKind.wrap .i64 ((IntKind.wrap .i64 (v1054 - v1052)) - (1 : Int))
                      if 0 ≤ x1067 ∧ x1067 < (6 : Nat) then
                        if x1067.toNat < 6 then
                          let x1069 : Int := IntKind.wrap .i64 ((32 : Int) - v1053)
                          if x1069 < 0 then
                            none
                          else
                            if 0 ≤ v1054 ∧ v1054 < (6 : Nat) then
                              if v1054.toNat < 6 then
                                r1077 (IntKind.wrap .i64 (v1054 - (1 : Int))) (List.set l1062 (v1054.toNat) (ibits .or .u32 (List.getD l1062 v1054.toNat 0) (Int.fdiv (List.getD a1055 x1067.toNat 0) (2 ^ (min x1069.toNat 32)))))
                              else
                                none
                            else
                              none
                        else
                          none
                      else
                        none
                    else
                      none
                  else
                    none)
                 (
                  r1077 (IntKind.wrap .i64 (v1054 - (1 : Int))) l1062))
               (
                r1077 (IntKind.wrap .i64 (v1054 - (1 : Int))) l1062)
            else
              none
          else
            none
      else
        none
    else
      none)
   (
    k1076 a1057)
def g117l0 {α : Type}   (v1052 : Int) (v1053 : Int) (a1055 : List Int) (a1056 : List Int) (k1076 : (List Int) → Option α) : Nat → Int → (List Int) → Option α
  | 0 => fun _ _ => none
  | m + 1 => fun v1054 a1057 => g117l0b v1052 v1053 a1055 a1056 k1076 (g117l0 v1052 v1053 a1055 a1056 k1076 m) v1054 a1057
def g117l0M {α : Type} (m : Nat) : Int → Int → (List Int) → (List Int) → ((List Int) → Option α) → Int → (List Int) → Option α :=
  fun v1052 v1053 a1055 a1056 k1076 v1054 a1057 => g117l0 v1052 v1053 a1055 a1056 k1076 m v1054 a1057
def g117l0D : LoopD := { n := 50, sl := [2, 4, 5, 6, 7, 8], bl := [1002, 1004, 1005], tp := [(.vl (.sv (.ptr 1002 0))), (.vl (.sv (.ptr 1004 0))), (.vl (.sv (.ptr 1005 0))), (.vl (.sv (.int .i64))), (.vl (.sv (.int .i64))), (.vl (.sv (.int .i64)))], bp := [(true, [(.seq (.int .u32) 6)]), (true, [(.seq (.int .u32) 6)]), (true, [(.seq (.int .u32) 6)])], xs := [(2, [4, 5], [1004, 1005])] }
def g117l0K {α : Type} (L : Int → Int → (List Int) → (List Int) → ((List Int) → Option α) → Int → (List Int) → Option α) (ls : List Lf) (k : Ex → St → Option α) : Option α :=
  L (lf ls 0).int (lf ls 1).int ((lf ls 3).lst (.int .u32)) ((lf ls 4).lst (.int .u32))
    (fun y1 => k .normal (mkSt 50 [4, 5] [(.vl (.sv (.ptr 1004 0))), (.vl (.sv (.ptr 1005 0)))] [1004, 1005] [(true, [(.seq (.int .u32) 6 ((lf ls 4).lst (.int .u32)))]), (true, [(.seq (.int .u32) 6 y1)])]))
    (lf ls 2).int ((lf ls 5).lst (.int .u32))
def g117b {α : Type}  (L_g117l0 : {α : Type} → Int → Int → (List Int) → (List Int) → ((List Int) → Option α) → Int → (List Int) → Option α) (u1048 : List Int) (p1049 : Int) (k1079 : (List Int) → Option α) : Option α :=
  L_g117l0 (IntKind.wrap .i64 (Int.tdiv p1049 (32 : Int))) (Int.tmod p1049 (32 : Int)) u1048 [0, 0, 0, 0, 0, 0]
    (fun l1078 =>
      k1079 l1078)
    (5 : Int) [0, 0, 0, 0, 0, 0]
def g117 {α : Type} (m : Nat) : (List Int) → Int → ((List Int) → Option α) → Option α :=
  g117b (g117l0M m)
def g117tp : List TP := [(.vl (.agg [(.seq (.int .u32) 6)])), (.vl (.sv (.int .i64)))]
def g117bp : List BP := []
def g117K {α : Type} (G : (List Int) → Int → ((List Int) → Option α) → Option α) (ls : List Lf) (k : TV → List (List Seg) → List (List Seg) → Option α) : Option α :=
  G ((lf ls 0).lst (.int .u32)) (lf ls 1).int
    (fun y0 => k (.vl (.agg [(.seq (.int .u32) 6 y0)])) [] [])
def g117hd  (L_g117l0 : {α : Type} → Int → Int → (List Int) → (List Int) → ((List Int) → Option α) → Int → (List Int) → Option α) : Hd where
  call := fun f args Bs k => none
  loop := fun id st k => cond (Nat.beq id 0) (loopH g117l0D (g117l0K L_g117l0) st k) (none)
  ro := fun f => []
def g117h (m : Nat) : Hd := g117hd (g117l0M m)
theorem g117l0Step  (L_g117l0 : {α : Type} → Int → Int → (List Int) → (List Int) → ((List Int) → Option α) → Int → (List Int) → Option α) {α : Type} (L : Int → Int → (List Int) → (List Int) → ((List Int) → Option α) → Int → (List Int) → Option α) (ls : List Lf) (k : Ex → St → Option α) :
    g117l0K (fun v1052 v1053 a1055 a1056 k1076 v1054 a1057 => g117l0b v1052 v1053 a1055 a1056 k1076 (L v1052 v1053 a1055 a1056 k1076) v1054 a1057) ls k = ev tab (g117hd L_g117l0) (bodyAt Go.Proofs.Try.f117 0) (atHead g117l0D ls) (loopK g117l0D 0 (loopH g117l0D (g117l0K L)) k) := by kernel_rfl
theorem g117Main  (L_g117l0 : {α : Type} → Int → Int → (List Int) → (List Int) → ((List Int) → Option α) → Int → (List Int) → Option α) {α : Type} (ls : List Lf) (k : TV → List (List Seg) → List (List Seg) → Option α) :
    g117K (g117b L_g117l0) ls k = evFun tab (g117hd L_g117l0) Go.Proofs.Try.f117 (fillT g117tp ls).1 (fillB g117bp (fillT g117tp ls).2).1 k := by kernel_rfl
theorem g117Calls (m : Nat) : (g117h m).CallsOk Go.Proofs.Try.prog := cok_nil
theorem g117l0Ok (m : Nat) (α : Type) (st : St) (k : Ex → St → Option α) (r : α) (h : (g117h m).loop 0 st k = some r) :
    ∃ e st', k e st' = some r ∧ CodeS Go.Proofs.Try.prog (.block 0 (.loop (bodyAt Go.Proofs.Try.f117 0))) st e st' :=
  loop_ok (tab := tab) (h := g117h m) (F := fun n ls k => g117l0K (fun v1052 v1053 a1055 a1056 k1076 v1054 a1057 => g117l0 v1052 v1053 a1055 a1056 k1076 n v1054 a1057) ls k) tabOk (g117Calls m) mixed (loopsOk_of _ (fun p hp => by rw [show loopsOf (bodyAt Go.Proofs.Try.f117 0) = [] by kernel_rfl] at hp; cases hp))
    (fun _ _ => rfl) (fun n ls k => g117l0Step (g117l0M m) (fun v1052 v1053 a1055 a1056 k1076 => g117l0 v1052 v1053 a1055 a1056 k1076 n) ls k) (n := m) h
theorem g117Fn (m : Nat) : FnOk Go.Proofs.Try.prog 117 g117tp g117bp (fun {α} => g117K (g117 (α := α) m)) :=
  fn_ok (tab := tab) (h := g117h m) (fn := Go.Proofs.Try.f117) (F := fun {α} => g117K (g117 (α := α) m)) tabOk (g117Calls m) mixed (by kernel_rfl) (by kernel_rfl) (fun c hc => by
    rw [bodyOf_some hc]
    exact loopsOk_of _ (fun p hp => by
    rw [show loopsOf (bodyOf Go.Proofs.Try.f117) = [(0, bodyAt Go.Proofs.Try.f117 0)] by kernel_rfl] at hp
    simp only [List.mem_cons, List.not_mem_nil, or_false] at hp
    rcases hp with rfl
    exact g117l0Ok m))
    (fun α ls k => g117Main (g117l0M m) ls k)
theorem g117Ok (m : Nat) : RowOk Go.Proofs.Try.prog 117 (fun {α} => rowK g117tp g117bp (g117K (g117 (α := α) m))) := row_of (g117Fn m)

/-! ### g85: (*impl.calc).up -/
def g85b {α : Type} (G_g94 : {α : Type} → (List Int) → (Int → Option α) → Option α) (G_g117 : {α : Type} → (List Int) → Int → ((List Int) → Option α) → Option α) (G_g67 : {α : Type} → Bool → (List Int) → (Bool → Option α) → Option α)  (q1040 : Bool) (u1041 : List Int) (p1042 : Int) (q1043 : Bool) (k1082 : Bool → (List Int) → Bool → Option α) : Option α :=
  cond (decide (p1042 > (191 : Int)))
   (
    k1082 false [0, 0, 0, 0, 0, 0] true)
   (
    G_g94 u1041
      (fun x1045 =>
        cond (decide ((IntKind.wrap .i64 (x1045 + p1042)) > (192 : Int)))
         (
          k1082 false [0, 0, 0, 0, 0, 0] true)
         (
          G_g117 u1041 p1042
            (fun l1080 =>
              G_g67 q1040 l1080
                (fun b1081 =>
                  k1082 b1081 l1080 q1043)))))
def g85 {α : Type} (m : Nat) : Bool → (List Int) → Int → Bool → (Bool → (List Int) → Bool → Option α) → Option α :=
  g85b (g94 m) (g117 m) (g67 m)
def g85tp : List TP := [(.vl (.sv (.ptr 0 0))), (.vl (.agg [(.one .bool), (.seq (.int .u32) 6)])), (.vl (.sv (.int .i64)))]
def g85bp : List BP := [(true, [(.one .bool)])]
def g85K {α : Type} (G : Bool → (List Int) → Int → Bool → (Bool → (List Int) → Bool → Option α) → Option α) (ls : List Lf) (k : TV → List (List Seg) → List (List Seg) → Option α) : Option α :=
  G (lf ls 0).bool ((lf ls 1).lst (.int .u32)) (lf ls 2).int (lf ls 3).bool
    (fun y0 y1 y2 => k (.vl (.agg [(.one (.bool y0)), (.seq (.int .u32) 6 y1)])) [[(.one (.bool y2))]] [])
def g85hd (G_g94 : {α : Type} → (List Int) → (Int → Option α) → Option α) (G_g117 : {α : Type} → (List Int) → Int → ((List Int) → Option α) → Option α) (G_g67 : {α : Type} → Bool → (List Int) → (Bool → Option α) → Option α)  : Hd where
  call := fun f args Bs k => cond (Nat.beq f 94) (rowK g94tp g94bp (g94K G_g94) args Bs k) (cond (Nat.beq f 117) (rowK g117tp g117bp (g117K G_g117) args Bs k) (cond (Nat.beq f 67) (rowK g67tp g67bp (g67K G_g67) args Bs k) (none)))
  loop := fun id st k => none
  ro := fun f => []
def g85h (m : Nat) : Hd := g85hd (g94 m) (g117 m) (g67 m)
theorem g85Main (G_g94 : {α : Type} → (List Int) → (Int → Option α) → Option α) (G_g117 : {α : Type} → (List Int) → Int → ((List Int) → Option α) → Option α) (G_g67 : {α : Type} → Bool → (List Int) → (Bool → Option α) → Option α)  {α : Type} (ls : List Lf) (k : TV → List (List Seg) → List (List Seg) → Option α) :
    g85K (g85b G_g94 G_g117 G_g67) ls k = evFun tab (g85hd G_g94 G_g117 G_g67) Go.Proofs.Try.f85 (fillT g85tp ls).1 (fillB g85bp (fillT g85tp ls).2).1 k := by kernel_rfl
theorem g85Calls (m : Nat) : (g85h m).CallsOk Go.Proofs.Try.prog := (cok_cons (g94Ok m) (cok_cons (g117Ok m) (cok_cons (g67Ok m) cok_nil)))
theorem g85Fn (m : Nat) : FnOk Go.Proofs.Try.prog 85 g85tp g85bp (fun {α} => g85K (g85 (α := α) m)) :=
  fn_ok (tab := tab) (h := g85h m) (fn := Go.Proofs.Try.f85) (F := fun {α} => g85K (g85 (α := α) m)) tabOk (g85Calls m) mixed (by kernel_rfl) (by kernel_rfl) (fun c hc => by
    rw [bodyOf_some hc]
    exact loopsOk_of _ (fun p hp => by rw [show loopsOf (bodyOf Go.Proofs.Try.f85) = [] by kernel_rfl] at hp; cases hp))
    (fun α ls k => g85Main (g94 m) (g117 m) (g67 m) ls k)
theorem g85Ok (m : Nat) : RowOk Go.Proofs.Try.prog 85 (fun {α} => rowK g85tp g85bp (g85K (g85 (α := α) m))) := row_of (g85Fn m)

/-! ### g40: impl.ShiftUp -/
def g40b {α : Type} (G_g24 : {α : Type} → Bool → (List Int) → (Bool → Option α) → Option α) (G_g84 : {α : Type} → Int → Int → Int → (Bool → Option α) → Option α) (G_g85 : {α : Type} → Bool → (List Int) → Int → Bool → (Bool → (List Int) → Bool → Option α) → Option α) (G_g74 : {α : Type} → Bool → (List Int) → Bool → (Bool → (List Int) → Int → Option α) → Option α)  (q1033 : Bool) (u1034 : List Int) (p1035 : Int) (k1089 : Bool → (List Int) → Int → Option α) : Option α :=
  G_g24 q1033 u1034
    (fun b1036 =>
      cond (!b1036)
       (
        k1089 false [0, 0, 0, 0, 0, 0] (1 : Int))
       (
        G_g84 p1035 (0 : Int) (191 : Int)
          (fun b1038 =>
            cond (!b1038)
             (
              k1089 false [0, 0, 0, 0, 0, 0] (2 : Int))
             (
              G_g85 q1033 u1034 p1035 false
                (fun b1083 l1084 b1085 =>
                  G_g74 b1083 l1084 b1085
                    (fun b1086 l1087 x1088 =>
                      k1089 b1086 l1087 x1088))))))
def g40 {α : Type} (m : Nat) : Bool → (List Int) → Int → (Bool → (List Int) → Int → Option α) → Option α :=
  g40b (g24 m) (g84 m) (g85 m) (g74 m)
def g40tp : List TP := [(.vl (.agg [(.one .bool), (.seq (.int .u32) 6)])), (.vl (.sv (.int .i64)))]
def g40bp : List BP := []
def g40K {α : Type} (G : Bool → (List Int) → Int → (Bool → (List Int) → Int → Option α) → Option α) (ls : List Lf) (k : TV → List (List Seg) → List (List Seg) → Option α) : Option α :=
  G (lf ls 0).bool ((lf ls 1).lst (.int .u32)) (lf ls 2).int
    (fun y0 y1 y2 => k (.tup [(.agg [(.one (.bool y0)), (.seq (.int .u32) 6 y1)]), (.sv (.int .i64 y2))]) [] [])
def g40hd (G_g24 : {α : Type} → Bool → (List Int) → (Bool → Option α) → Option α) (G_g84 : {α : Type} → Int → Int → Int → (Bool → Option α) → Option α) (G_g85 : {α : Type} → Bool → (List Int) → Int → Bool → (Bool → (List Int) → Bool → Option α) → Option α) (G_g74 : {α : Type} → Bool → (List Int) → Bool → (Bool → (List Int) → Int → Option α) → Option α)  : Hd where
  call := fun f args Bs k => cond (Nat.beq f 24) (rowK g24tp g24bp (g24K G_g24) args Bs k) (cond (Nat.beq f 84) (rowK g84tp g84bp (g84K G_g84) args Bs k) (cond (Nat.beq f 85) (rowK g85tp g85bp (g85K G_g85) args Bs k) (cond (Nat.beq f 74) (rowK g74tp g74bp (g74K G_g74) args Bs k) (none))))
  loop := fun id st k => none
  ro := fun f => cond (Nat.beq f 74) [0] ([])
def g40h (m : Nat) : Hd := g40hd (g24 m) (g84 m) (g85 m) (g74 m)
theorem g40Main (G_g24 : {α : Type} → Bool → (List Int) → (Bool → Option α) → Option α) (G_g84 : {α : Type} → Int → Int → Int → (Bool → Option α) → Option α) (G_g85 : {α : Type} → Bool → (List Int) → Int → Bool → (Bool → (List Int) → Bool → Option α) → Option α) (G_g74 : {α : Type} → Bool → (List Int) → Bool → (Bool → (List Int) → Int → Option α) → Option α)  {α : Type} (ls : List Lf) (k : TV → List (List Seg) → List (List Seg) → Option α) :
    g40K (g40b G_g24 G_g84 G_g85 G_g74) ls k = evFun tab (g40hd G_g24 G_g84 G_g85 G_g74) Go.Proofs.Try.f40 (fillT g40tp ls).1 (fillB g40bp (fillT g40tp ls).2).1 k := by kernel_rfl
theorem g40Calls (m : Nat) : (g40h m).CallsOk Go.Proofs.Try.prog := (cok_cons (g24Ok m) (cok_cons (g84Ok m) (cok_cons (g85Ok m) (cok_cons (g74Ok m) cok_nil))))
theorem g40Fn (m : Nat) : FnOk Go.Proofs.Try.prog 40 g40tp g40bp (fun {α} => g40K (g40 (α := α) m)) :=
  fn_ok (tab := tab) (h := g40h m) (fn := Go.Proofs.Try.f40) (F := fun {α} => g40K (g40 (α := α) m)) tabOk (g40Calls m) mixed (by kernel_rfl) (by kernel_rfl) (fun c hc => by
    rw [bodyOf_some hc]
    exact loopsOk_of _ (fun p hp => by rw [show loopsOf (bodyOf Go.Proofs.Try.f40) = [] by kernel_rfl] at hp; cases hp))
    (fun α ls k => g40Main (g24 m) (g84 m) (g85 m) (g74 m) ls k)
theorem g40Ok (m : Nat) : RowOk Go.Proofs.Try.prog 40 (fun {α} => rowK g40tp g40bp (g40K (g40 (α := α) m))) := row_of (g40Fn m)

/-! ### g13: laws.FnExactShiftUp -/
def g13b {α : Type} (G_g23 : {α : Type} → Bool → (List Int) → ((List Int) → Option α) → Option α) (G_g57 : {α : Type} → Bool → (List Int) → Int → (Bool → (List Int) → Int → Option α) → Option α) (G_g40 : {α : Type} → Bool → (List Int) → Int → (Bool → (List Int) → Int → Option α) → Option α) (G_g27 : {α : Type} → Bool → (List Int) → Bool → (List Int) → (Bool → Option α) → Option α)  (q966 : Bool) (u967 : List Int) (p968 : Int) (k1096 : Bool → Option α) : Option α :=
  G_g23 q966 u967
    (fun l969 =>
      G_g57 q966 l969 p968
        (fun b1029 l1030 x1031 =>
          G_g23 q966 u967
            (fun l1032 =>
              G_g40 q966 l1032 p968
                (fun b1090 l1091 x1092 =>
                  G_g27 b1090 l1091 b1029 l1030
                    (fun b1093 =>
                      cond (!b1093)
                       (
                        k1096 false)
                       (
                        cond (x1092 != x1031)
                         (
                          k1096 false)
                         (
                          k1096 true)))))))
def g13 {α : Type} (m : Nat) : Bool → (List Int) → Int → (Bool → Option α) → Option α :=
  g13b (g23 m) (g57 m) (g40 m) (g27 m)
def g13tp : List TP := [(.vl (.agg [(.one .bool), (.seq (.int .u32) 6)])), (.vl (.sv (.int .i64)))]
def g13bp : List BP := []
def g13K {α : Type} (G : Bool → (List Int) → Int → (Bool → Option α) → Option α) (ls : List Lf) (k : TV → List (List Seg) → List (List Seg) → Option α) : Option α :=
  G (lf ls 0).bool ((lf ls 1).lst (.int .u32)) (lf ls 2).int
    (fun y0 => k (.vl (.sv (.bool y0))) [] [])
def g13hd (G_g23 : {α : Type} → Bool → (List Int) → ((List Int) → Option α) → Option α) (G_g57 : {α : Type} → Bool → (List Int) → Int → (Bool → (List Int) → Int → Option α) → Option α) (G_g40 : {α : Type} → Bool → (List Int) → Int → (Bool → (List Int) → Int → Option α) → Option α) (G_g27 : {α : Type} → Bool → (List Int) → Bool → (List Int) → (Bool → Option α) → Option α)  : Hd where
  call := fun f args Bs k => cond (Nat.beq f 23) (rowK g23tp g23bp (g23K G_g23) args Bs k) (cond (Nat.beq f 57) (rowK g57tp g57bp (g57K G_g57) args Bs k) (cond (Nat.beq f 40) (rowK g40tp g40bp (g40K G_g40) args Bs k) (cond (Nat.beq f 27) (rowK g27tp g27bp (g27K G_g27) args Bs k) (none))))
  loop := fun id st k => none
  ro := fun f => []
def g13h (m : Nat) : Hd := g13hd (g23 m) (g57 m) (g40 m) (g27 m)
theorem g13Main (G_g23 : {α : Type} → Bool → (List Int) → ((List Int) → Option α) → Option α) (G_g57 : {α : Type} → Bool → (List Int) → Int → (Bool → (List Int) → Int → Option α) → Option α) (G_g40 : {α : Type} → Bool → (List Int) → Int → (Bool → (List Int) → Int → Option α) → Option α) (G_g27 : {α : Type} → Bool → (List Int) → Bool → (List Int) → (Bool → Option α) → Option α)  {α : Type} (ls : List Lf) (k : TV → List (List Seg) → List (List Seg) → Option α) :
    g13K (g13b G_g23 G_g57 G_g40 G_g27) ls k = evFun tab (g13hd G_g23 G_g57 G_g40 G_g27) Go.Proofs.Try.f13 (fillT g13tp ls).1 (fillB g13bp (fillT g13tp ls).2).1 k := by kernel_rfl
theorem g13Calls (m : Nat) : (g13h m).CallsOk Go.Proofs.Try.prog := (cok_cons (g23Ok m) (cok_cons (g57Ok m) (cok_cons (g40Ok m) (cok_cons (g27Ok m) cok_nil))))
theorem g13Fn (m : Nat) : FnOk Go.Proofs.Try.prog 13 g13tp g13bp (fun {α} => g13K (g13 (α := α) m)) :=
  fn_ok (tab := tab) (h := g13h m) (fn := Go.Proofs.Try.f13) (F := fun {α} => g13K (g13 (α := α) m)) tabOk (g13Calls m) mixed (by kernel_rfl) (by kernel_rfl) (fun c hc => by
    rw [bodyOf_some hc]
    exact loopsOk_of _ (fun p hp => by rw [show loopsOf (bodyOf Go.Proofs.Try.f13) = [] by kernel_rfl] at hp; cases hp))
    (fun α ls k => g13Main (g23 m) (g57 m) (g40 m) (g27 m) ls k)
theorem g13Ok (m : Nat) : RowOk Go.Proofs.Try.prog 13 (fun {α} => rowK g13tp g13bp (g13K (g13 (α := α) m))) := row_of (g13Fn m)

/-! ### g122: spec.l01DownMag -/
def g122l0b {α : Type}   (v1115 : Int) (a1117 : List Int) (a1118 : List Int) (k1146 : (List Int) → Option α) (r1147 : Int → (List Int) → Option α) (v1116 : Int) (a1119 : List Int) : Option α :=
  cond (decide (v1116 < (6 : Int)))
   (
    if 0 ≤ v1116 ∧ v1116 < (6 : Nat) then
      if v1116.toNat < 6 then
        let x1122 : Int := IntKind.wrap .u64 (List.getD a1117 v1116.toNat 0)
        cond (decide ((IntKind.wrap .i64 (v1116 + (1 : Int))) < (6 : Int)))
         (
          let x1125 : Int := IntKind.wrap .i64 (v1116 + (1 : Int))
          if 0 ≤ x1125 ∧ x1125 < (6 : Nat) then
            if x1125.toNat < 6 then
              let x1131 : Int := IntKind.wrap .i64 (v1116 - (IntKind.wrap .i64 (Int.tdiv v1115 (32 : Int))))
              let x1133 : Int := IntKind.wrap .u64 (Int.tmod v1115 (32 : Int))
              if x1133 < 0 then
                none
              else
                if 0 ≤ x1131 ∧ x1131 < (6 : Nat) then
                  if x1131.toNat < 6 then
                    r1147 (IntKind.wrap .i64 (v1116 + (1 : Int))) (List.set a1119 (x1131.toNat) (IntKind.wrap .u32 (Int.fdiv (IntKind.wrap .u64 (x1122 + (IntKind.wrap .u64 ((IntKind.wrap .u64 (List.getD a1117 x1125.toNat 0)) * 2 ^ 32)))) (2 ^ (min x1133.toNat 64)))))
                  else
                    none
                else
                  none
            else
              none
          else
            none)
         (
          let x1139 : Int := IntKind.wrap .i64 (v1116 - (IntKind.wrap .i64 (Int.tdiv v1115 (32 : Int))))
          let x1141 : Int := IntKind.wrap .u64 (Int.tmod v1115 (32 : Int))
          if x1141 < 0 then
            none
          else
            if 0 ≤ x1139 ∧ x1139 < (6 : Nat) then
              if x1139.toNat < 6 then
                r1147 (IntKind.wrap .i64 (v1116 + (1 : Int))) (List.set a1119 (x1139.toNat) (IntKind.wrap .u32 (Int.fdiv x1122 (2 ^ (min x1141.toNat 64)))))
              else
                none
            else
              none)
      else
        none
    else
      none)
   (
    k1146 a1119)
def g122l0 {α : Type}   (v1115 : Int) (a1117 : List Int) (a1118 : List Int) (k1146 : (List Int) → Option α) : Nat → Int → (List Int) → Option α
  | 0 => fun _ _ => none
  | m + 1 => fun v1116 a1119 => g122l0b v1115 a1117 a1118 k1146 (g122l0 v1115 a1117 a1118 k1146 m) v1116 a1119
def g122l0M {α : Type} (m : Nat) : Int → (List Int) → (List Int) → ((List Int) → Option α) → Int → (List Int) → Option α :=
  fun v1115 a1117 a1118 k1146 v1116 a1119 => g122l0 v1115 a1117 a1118 k1146 m v1116 a1119
def g122l0D : LoopD := { n := 46, sl := [0, 1, 4, 5, 6], bl := [0, 1004, 1005], tp := [(.vl (.sv (.ptr 0 0))), (.vl (.sv (.int .i64))), (.vl (.sv (.ptr 1004 0))), (.vl (.sv (.ptr 1005 0))), (.vl (.sv (.int .i64)))], bp := [(false, [(.seq (.int .u32) 6)]), (true, [(.seq (.int .u32) 6)]), (true, [(.seq (.int .u32) 6)])], xs := [(2, [4, 5], [0, 1004, 1005])] }
def g122l0K {α : Type} (L : Int → (List Int) → (List Int) → ((List Int) → Option α) → Int → (List Int) → Option α) (ls : List Lf) (k : Ex → St → Option α) : Option α :=
  L (lf ls 0).int ((lf ls 2).lst (.int .u32)) ((lf ls 3).lst (.int .u32))
    (fun y2 => k .normal (mkSt 46 [4, 5] [(.vl (.sv (.ptr 1004 0))), (.vl (.sv (.ptr 1005 0)))] [0, 1004, 1005] [(false, [(.seq (.int .u32) 6 ((lf ls 2).lst (.int .u32)))]), (true, [(.seq (.int .u32) 6 ((lf ls 3).lst (.int .u32)))]), (true, [(.seq (.int .u32) 6 y2)])]))
    (lf ls 1).int ((lf ls 4).lst (.int .u32))
def g122b {α : Type}  (L_g122l0 : {α : Type} → Int → (List Int) → (List Int) → ((List Int) → Option α) → Int → (List Int) → Option α) (p1112 : Int) (u1113 : List Int) (k1149 : (List Int) → Option α) : Option α :=
  L_g122l0 p1112 u1113 [0, 0, 0, 0, 0, 0]
    (fun l1148 =>
      k1149 l1148)
    (IntKind.wrap .i64 (Int.tdiv p1112 (32 : Int))) [0, 0, 0, 0, 0, 0]
def g122 {α : Type} (m : Nat) : Int → (List Int) → ((List Int) → Option α) → Option α :=
  g122b (g122l0M m)
def g122tp : List TP := [(.vl (.sv (.ptr 0 0))), (.vl (.sv (.int .i64)))]
def g122bp : List BP := [(false, [(.seq (.int .u32) 6)])]
def g122K {α : Type} (G : Int → (List Int) → ((List Int) → Option α) → Option α) (ls : List Lf) (k : TV → List (List Seg) → List (List Seg) → Option α) : Option α :=
  G (lf ls 0).int ((lf ls 1).lst (.int .u32))
    (fun y0 => k (.vl (.agg [(.seq (.int .u32) 6 y0)])) [[(.seq (.int .u32) 6 ((lf ls 1).lst (.int .u32)))]] [])
def g122hd  (L_g122l0 : {α : Type} → Int → (List Int) → (List Int) → ((List Int) → Option α) → Int → (List Int) → Option α) : Hd where
  call := fun f args Bs k => none
  loop := fun id st k => cond (Nat.beq id 0) (loopH g122l0D (g122l0K L_g122l0) st k) (none)
  ro := fun f => []
def g122h (m : Nat) : Hd := g122hd (g122l0M m)
theorem g122l0Step  (L_g122l0 : {α : Type} → Int → (List Int) → (List Int) → ((List Int) → Option α) → Int → (List Int) → Option α) {α : Type} (L : Int → (List Int) → (List Int) → ((List Int) → Option α) → Int → (List Int) → Option α) (ls : List Lf) (k : Ex → St → Option α) :
    g122l0K (fun v1115 a1117 a1118 k1146 v1116 a1119 => g122l0b v1115 a1117 a1118 k1146 (L v1115 a1117 a1118 k1146) v1116 a1119) ls k = ev tab (g122hd L_g122l0) (bodyAt Go.Proofs.Try.f122 0) (atHead g122l0D ls) (loopK g122l0D 0 (loopH g122l0D (g122l0K L)) k) := by kernel_rfl
theorem g122Main  (L_g122l0 : {α : Type} → Int → (List Int) → (List Int) → ((List Int) → Option α) → Int → (List Int) → Option α) {α : Type} (ls : List Lf) (k : TV → List (List Seg) → List (List Seg) → Option α) :
    g122K (g122b L_g122l0) ls k = evFun tab (g122hd L_g122l0) Go.Proofs.Try.f122 (fillT g122tp ls).1 (fillB g122bp (fillT g122tp ls).2).1 k := by kernel_rfl
theorem g122Calls (m : Nat) : (g122h m).CallsOk Go.Proofs.Try.prog := cok_nil
theorem g122l0Ok (m : Nat) (α : Type) (st : St) (k : Ex → St → Option α) (r : α) (h : (g122h m).loop 0 st k = some r) :
    ∃ e st', k e st' = some r ∧ CodeS Go.Proofs.Try.prog (.block 0 (.loop (bodyAt Go.Proofs.Try.f122 0))) st e st' :=
  loop_ok (tab := tab) (h := g122h m) (F := fun n ls k => g122l0K (fun v1115 a1117 a1118 k1146 v1116 a1119 => g122l0 v1115 a1117 a1118 k1146 n v1116 a1119) ls k) tabOk (g122Calls m) mixed (loopsOk_of _ (fun p hp => by rw [show loopsOf (bodyAt Go.Proofs.Try.f122 0) = [] by kernel_rfl] at hp; cases hp))
    (fun _ _ => rfl) (fun n ls k => g122l0Step (g122l0M m) (fun v1115 a1117 a1118 k1146 => g122l0 v1115 a1117 a1118 k1146 n) ls k) (n := m) h
theorem g122Fn (m : Nat) : FnOk Go.Proofs.Try.prog 122 g122tp g122bp (fun {α} => g122K (g122 (α := α) m)) :=
  fn_ok (tab := tab) (h := g122h m) (fn := Go.Proofs.Try.f122) (F := fun {α} => g122K (g122 (α := α) m)) tabOk (g122Calls m) mixed (by kernel_rfl) (by kernel_rfl) (fun c hc => by
    rw [bodyOf_some hc]
    exact loopsOk_of _ (fun p hp => by
    rw [show loopsOf (bodyOf Go.Proofs.Try.f122) = [(0, bodyAt Go.Proofs.Try.f122 0)] by kernel_rfl] at hp
    simp only [List.mem_cons, List.not_mem_nil, or_false] at hp
    rcases hp with rfl
    exact g122l0Ok m))
    (fun α ls k => g122Main (g122l0M m) ls k)
theorem g122Ok (m : Nat) : RowOk Go.Proofs.Try.prog 122 (fun {α} => rowK g122tp g122bp (g122K (g122 (α := α) m))) := row_of (g122Fn m)

/-! ### g100: spec.l01Near -/
def g100b {α : Type} (G_g122 : {α : Type} → Int → (List Int) → ((List Int) → Option α) → Option α) (G_g121 : {α : Type} → Int → (List Int) → ((List Int) → Bool → Option α) → Option α) (G_g113 : {α : Type} → (List Int) → (List Int) → ((List Int) → Option α) → Option α) (G_g71 : {α : Type} → Bool → (List Int) → (Bool → Option α) → Option α) (G_g112 : {α : Type} → (List Int) → (List Int) → ((List Int) → Bool → Option α) → Option α)  (q1108 : Bool) (u1109 : List Int) (p1110 : Int) (k1172 : Bool → (List Int) → Option α) : Option α :=
  cond (p1110 == (0 : Int))
   (
    k1172 q1108 u1109)
   (
    G_g122 p1110 u1109
      (fun l1150 =>
        G_g122 (IntKind.wrap .i64 (p1110 - (1 : Int))) u1109
          (fun l1152 =>
            G_g121 p1110 l1150
              (fun l1153 b1154 =>
                G_g113 u1109 l1153
                  (fun l1155 =>
                    G_g121 (IntKind.wrap .i64 (p1110 - (1 : Int))) [(1 : Int), 0, 0, 0, 0, 0]
                      (fun l1157 b1158 =>
                        let b1161 : Bool := (Int.tmod (List.getD l1152 0 0) (2 : Int)) == (1 : Int)
                        cond q1108
                         (
                          cond (eqLI l1155 l1157)
                           (
                            G_g71 q1108 l1150
                              (fun b1163 =>
                                k1172 b1163 l1150))
                           (
                            cond b1161
                             (
                              G_g112 l1150 [(1 : Int), 0, 0, 0, 0, 0]
                                (fun l1164 b1165 =>
                                  G_g71 q1108 l1164
                                    (fun b1166 =>
                                      k1172 b1166 l1164)))
                             (
                              G_g71 q1108 l1150
                                (fun b1167 =>
                                  k1172 b1167 l1150))))
                         (
                          cond b1161
                           (
                            G_g112 l1150 [(1 : Int), 0, 0, 0, 0, 0]
                              (fun l1168 b1169 =>
                                G_g71 q1108 l1168
                                  (fun b1170 =>
                                    k1172 b1170 l1168)))
                           (
                            G_g71 q1108 l1150
                              (fun b1171 =>
                                k1172 b1171 l1150)))))))))
def g100 {α : Type} (m : Nat) : Bool → (List Int) → Int → (Bool → (List Int) → Option α) → Option α :=
  g100b (g122 m) (g121 m) (g113 m) (g71 m) (g112 m)
def g100tp : List TP := [(.vl (.agg [(.one .bool), (.seq (.int .u32) 6)])), (.vl (.sv (.int .i64)))]
def g100bp : List BP := []
def g100K {α : Type} (G : Bool → (List Int) → Int → (Bool → (List Int) → Option α) → Option α) (ls : List Lf) (k : TV → List (List Seg) → List (List Seg) → Option α) : Option α :=
  G (lf ls 0).bool ((lf ls 1).lst (.int .u32)) (lf ls 2).int
    (fun y0 y1 => k (.vl (.agg [(.one (.bool y0)), (.seq (.int .u32) 6 y1)])) [] [])
def g100hd (G_g122 : {α : Type} → Int → (List Int) → ((List Int) → Option α) → Option α) (G_g121 : {α : Type} → Int → (List Int) → ((List Int) → Bool → Option α) → Option α) (G_g113 : {α : Type} → (List Int) → (List Int) → ((List Int) → Option α) → Option α) (G_g71 : {α : Type} → Bool → (List Int) → (Bool → Option α) → Option α) (G_g112 : {α : Type} → (List Int) → (List Int) → ((List Int) → Bool → Option α) → Option α)  : Hd where
  call := fun f args Bs k => cond (Nat.beq f 122) (rowK g122tp g122bp (g122K G_g122) args Bs k) (cond (Nat.beq f 121) (rowK g121tp g121bp (g121K G_g121) args Bs k) (cond (Nat.beq f 113) (rowK g113tp g113bp (g113K G_g113) args Bs k) (cond (Nat.beq f 71) (rowK g71tp g71bp (g71K G_g71) args Bs k) (cond (Nat.beq f 112) (rowK g112tp g112bp (g112K G_g112) args Bs k) (none)))))
  loop := fun id st k => none
  ro := fun f => cond (Nat.beq f 112) [0, 1] (cond (Nat.beq f 113) [0, 1] (cond (Nat.beq f 121) [0] (cond (Nat.beq f 122) [0] ([]))))
def g100h (m : Nat) : Hd := g100hd (g122 m) (g121 m) (g113 m) (g71 m) (g112 m)
theorem g100Main (G_g122 : {α : Type} → Int → (List Int) → ((List Int) → Option α) → Option α) (G_g121 : {α : Type} → Int → (List Int) → ((List Int) → Bool → Option α) → Option α) (G_g113 : {α : Type} → (List Int) → (List Int) → ((List Int) → Option α) → Option α) (G_g71 : {α : Type} → Bool → (List Int) → (Bool → Option α) → Option α) (G_g112 : {α : Type} → (List Int) → (List Int) → ((List Int) → Bool → Option α) → Option α)  {α : Type} (ls : List Lf) (k : TV → List (List Seg) → List (List Seg) → Option α) :
    g100K (g100b G_g122 G_g121 G_g113 G_g71 G_g112) ls k = evFun tab (g100hd G_g122 G_g121 G_g113 G_g71 G_g112) Go.Proofs.Try.f100 (fillT g100tp ls).1 (fillB g100bp (fillT g100tp ls).2).1 k := by kernel_rfl
theorem g100Calls (m : Nat) : (g100h m).CallsOk Go.Proofs.Try.prog := (cok_cons (g122Ok m) (cok_cons (g121Ok m) (cok_cons (g113Ok m) (cok_cons (g71Ok m) (cok_cons (g112Ok m) cok_nil)))))
theorem g100Fn (m : Nat) : FnOk Go.Proofs.Try.prog 100 g100tp g100bp (fun {α} => g100K (g100 (α := α) m)) :=
  fn_ok (tab := tab) (h := g100h m) (fn := Go.Proofs.Try.f100) (F := fun {α} => g100K (g100 (α := α) m)) tabOk (g100Calls m) mixed (by kernel_rfl) (by kernel_rfl) (fun c hc => by
    rw [bodyOf_some hc]
    exact loopsOk_of _ (fun p hp => by rw [show loopsOf (bodyOf Go.Proofs.Try.f100) = [] by kernel_rfl] at hp; cases hp))
    (fun α ls k => g100Main (g122 m) (g121 m) (g113 m) (g71 m) (g112 m) ls k)
theorem g100Ok (m : Nat) : RowOk Go.Proofs.Try.prog 100 (fun {α} => rowK g100tp g100bp (g100K (g100 (α := α) m))) := row_of (g100Fn m)

/-! ### g59: spec.ShiftNear -/
def g59b {α : Type} (G_g64 : {α : Type} → Bool → (List Int) → (Bool → Option α) → Option α) (G_g98 : {α : Type} → Int → (Bool → Option α) → Option α) (G_g100 : {α : Type} → Bool → (List Int) → Int → (Bool → (List Int) → Option α) → Option α)  (q1101 : Bool) (u1102 : List Int) (p1103 : Int) (k1175 : Bool → (List Int) → Int → Option α) : Option α :=
  G_g64 q1101 u1102
    (fun b1104 =>
      cond (!b1104)
       (
        k1175 false [0, 0, 0, 0, 0, 0] (1 : Int))
       (
        G_g98 p1103
          (fun b1106 =>
            cond (!b1106)
             (
              k1175 false [0, 0, 0, 0, 0, 0] (2 : Int))
             (
              G_g100 q1101 u1102 p1103
                (fun b1173 l1174 =>
                  k1175 b1173 l1174 (0 : Int))))))
def g59 {α : Type} (m : Nat) : Bool → (List Int) → Int → (Bool → (List Int) → Int → Option α) → Option α :=
  g59b (g64 m) (g98 m) (g100 m)
def g59tp : List TP := [(.vl (.agg [(.one .bool), (.seq (.int .u32) 6)])), (.vl (.sv (.int .i64)))]
def g59bp : List BP := []
def g59K {α : Type} (G : Bool → (List Int) → Int → (Bool → (List Int) → Int → Option α) → Option α) (ls : List Lf) (k : TV → List (List Seg) → List (List Seg) → Option α) : Option α :=
  G (lf ls 0).bool ((lf ls 1).lst (.int .u32)) (lf ls 2).int
    (fun y0 y1 y2 => k (.tup [(.agg [(.one (.bool y0)), (.seq (.int .u32) 6 y1)]), (.sv (.int .i64 y2))]) [] [])
def g59hd (G_g64 : {α : Type} → Bool → (List Int) → (Bool → Option α) → Option α) (G_g98 : {α : Type} → Int → (Bool → Option α) → Option α) (G_g100 : {α : Type} → Bool → (List Int) → Int → (Bool → (List Int) → Option α) → Option α)  : Hd where
  call := fun f args Bs k => cond (Nat.beq f 64) (rowK g64tp g64bp (g64K G_g64) args Bs k) (cond (Nat.beq f 98) (rowK g98tp g98bp (g98K G_g98) args Bs k) (cond (Nat.beq f 100) (rowK g100tp g100bp (g100K G_g100) args Bs k) (none)))
  loop := fun id st k => none
  ro := fun f => cond (Nat.beq f 64) [0] ([])
def g59h (m : Nat) : Hd := g59hd (g64 m) (g98 m) (g100 m)
theorem g59Main (G_g64 : {α : Type} → Bool → (List Int) → (Bool → Option α) → Option α) (G_g98 : {α : Type} → Int → (Bool → Option α) → Option α) (G_g100 : {α : Type} → Bool → (List Int) → Int → (Bool → (List Int) → Option α) → Option α)  {α : Type} (ls : List Lf) (k : TV → List (List Seg) → List (List Seg) → Option α) :
    g59K (g59b G_g64 G_g98 G_g100) ls k = evFun tab (g59hd G_g64 G_g98 G_g100) Go.Proofs.Try.f59 (fillT g59tp ls).1 (fillB g59bp (fillT g59tp ls).2).1 k := by kernel_rfl
theorem g59Calls (m : Nat) : (g59h m).CallsOk Go.Proofs.Try.prog := (cok_cons (g64Ok m) (cok_cons (g98Ok m) (cok_cons (g100Ok m) cok_nil)))
theorem g59Fn (m : Nat) : FnOk Go.Proofs.Try.prog 59 g59tp g59bp (fun {α} => g59K (g59 (α := α) m)) :=
  fn_ok (tab := tab) (h := g59h m) (fn := Go.Proofs.Try.f59) (F := fun {α} => g59K (g59 (α := α) m)) tabOk (g59Calls m) mixed (by kernel_rfl) (by kernel_rfl) (fun c hc => by
    rw [bodyOf_some hc]
    exact loopsOk_of _ (fun p hp => by rw [show loopsOf (bodyOf Go.Proofs.Try.f59) = [] by kernel_rfl] at hp; cases hp))
    (fun α ls k => g59Main (g64 m) (g98 m) (g100 m) ls k)
theorem g59Ok (m : Nat) : RowOk Go.Proofs.Try.prog 59 (fun {α} => rowK g59tp g59bp (g59K (g59 (α := α) m))) := row_of (g59Fn m)

/-! ### g118: (impl.size).down -/
def g118l0b {α : Type}   (v1196 : Int) (v1197 : Int) (a1199 : List Int) (a1200 : List Int) (k1223 : (List Int) → Option α) (r1224 : Int → (List Int) → Option α) (v1198 : Int) (a1201 : List Int) : Option α :=
  cond (decide ((IntKind.wrap .i64 (v1198 + v1196)) < (6 : Int)))
   (
    let x1204 : Int := IntKind.wrap .i64 (v1198 + v1196)
    if 0 ≤ x1204 ∧ x1204 < (6 : Nat) then
      if x1204.toNat < 6 then
        if v1197 < 0 then
          none
        else
          if 0 ≤ v1198 ∧ v1198 < (6 : Nat) then
            if v1198.toNat < 6 then
              let l1207 : List Int := List.set a1201 (v1198.toNat) (Int.fdiv (List.getD a1199 x1204.toNat 0) (2 ^ (min v1197.toNat 32)))
              cond (decide (v1197 > (0 : Int)))
               (
                cond (decide ((IntKind.wrap .i64 ((IntKind.wrap .i64 (v1198 + v1196)) + (1 : Int))) < (6 : Int)))
                 (
                  if 0 ≤ v1198 ∧ v1198 < (6 : Nat) then
                    if v1198.toNat < 6 then
                      let x1214 : Int := IntKind.wrap .i64 ((IntKind.wrap .i64 (v1198 + v1196)) + (1 : Int))
                      if 0 ≤ x1214 ∧ x1214 < (6 : Nat) then
                        if x1214.toNat < 6 then
                          let x1216 : Int := IntKind.wrap .i64 ((32 : Int) - v1197)
                          if x1216 < 0 then
                            none
                          else
                            if 0 ≤ v1198 ∧ v1198 < (6 : Nat) then
                              if v1198.toNat < 6 then
                                r1224 (IntKind.wrap .i64 (v1198 + (1 : Int))) (List.set l1207 (v1198.toNat) (ibits .or .u32 (List.getD l1207 v1198.toNat 0) (IntKind.wrap .u32 ((List.getD a1199 x1214.toNat 0) * 2 ^ (min x1216.toNat 32)))))
                              else
                                none
                            else
                              none
                        else
                          none
                      else
                        none
                    else
                      none
                  else
                    none)
                 (
                  r1224 (IntKind.wrap .i64 (v1198 + (1 : Int))) l1207))
               (
                r1224 (IntKind.wrap .i64 (v1198 + (1 : Int))) l1207)
            else
              none
          else
            none
      else
        none
    else
      none)
   (
    k1223 a1201)
def g118l0 {α : Type}   (v1196 : Int) (v1197 : Int) (a1199 : List Int) (a1200 : List Int) (k1223 : (List Int) → Option α) : Nat → Int → (List Int) → Option α
  | 0 => fun _ _ => none
  | m + 1 => fun v1198 a1201 => g118l0b v1196 v1197 a1199 a1200 k1223 (g118l0 v1196 v1197 a1199 a1200 k1223 m) v1198 a1201
def g118l0M {α : Type} (m : Nat) : Int → Int → (List Int) → (List Int) → ((List Int) → Option α) → Int → (List Int) → Option α :=
  fun v1196 v1197 a1199 a1200 k1223 v1198 a1201 => g118l0 v1196 v1197 a1199 a1200 k1223 m v1198 a1201
def g118l0D : LoopD := { n := 53, sl := [2, 4, 5, 6, 7, 8], bl := [1002, 1004, 1005], tp := [(.vl (.sv (.ptr 1002 0))), (.vl (.sv (.ptr 1004 0))), (.vl (.sv (.ptr 1005 0))), (.vl (.sv (.int .i64))), (.vl (.sv (.int .i64))), (.vl (.sv (.int .i64)))], bp := [(true, [(.seq (.int .u32) 6)]), (true, [(.seq (.int .u32) 6)]), (true, [(.seq (.int .u32) 6)])], xs := [(2, [4, 5], [1004, 1005])] }
def g118l0K {α : Type} (L : Int → Int → (List Int) → (List Int) → ((List Int) → Option α) → Int → (List Int) → Option α) (ls : List Lf) (k : Ex → St → Option α) : Option α :=
  L (lf ls 0).int (lf ls 1).int ((lf ls 3).lst (.int .u32)) ((lf ls 4).lst (.int .u32))
    (fun y1 => k .normal (mkSt 53 [4, 5] [(.vl (.sv (.ptr 1004 0))), (.vl (.sv (.ptr 1005 0)))] [1004, 1005] [(true, [(.seq (.int .u32) 6 ((lf ls 4).lst (.int .u32)))]), (true, [(.seq (.int .u32) 6 y1)])]))
    (lf ls 2).int ((lf ls 5).lst (.int .u32))
def g118b {α : Type}  (L_g118l0 : {α : Type} → Int → Int → (List Int) → (List Int) → ((List Int) → Option α) → Int → (List Int) → Option α) (u1192 : List Int) (p1193 : Int) (k1226 : (List Int) → Option α) : Option α :=
  L_g118l0 (IntKind.wrap .i64 (Int.tdiv p1193 (32 : Int))) (Int.tmod p1193 (32 : Int)) u1192 [0, 0, 0, 0, 0, 0]
    (fun l1225 =>
      k1226 l1225)
    (0 : Int) [0, 0, 0, 0, 0, 0]
def g118 {α : Type} (m : Nat) : (List Int) → Int → ((List Int) → Option α) → Option α :=
  g118b (g118l0M m)
def g118tp : List TP := [(.vl (.agg [(.seq (.int .u32) 6)])), (.vl (.sv (.int .i64)))]
def g118bp : List BP := []
def g118K {α : Type} (G : (List Int) → Int → ((List Int) → Option α) → Option α) (ls : List Lf) (k : TV → List (List Seg) → List (List Seg) → Option α) : Option α :=
  G ((lf ls 0).lst (.int .u32)) (lf ls 1).int
    (fun y0 => k (.vl (.agg [(.seq (.int .u32) 6 y0)])) [] [])
def g118hd  (L_g118l0 : {α : Type} → Int → Int → (List Int) → (List Int) → ((List Int) → Option α) → Int → (List Int) → Option α) : Hd where
  call := fun f args Bs k => none
  loop := fun id st k => cond (Nat.beq id 0) (loopH g118l0D (g118l0K L_g118l0) st k) (none)
  ro := fun f => []
def g118h (m : Nat) : Hd := g118hd (g118l0M m)
theorem g118l0Step  (L_g118l0 : {α : Type} → Int → Int → (List Int) → (List Int) → ((List Int) → Option α) → Int → (List Int) → Option α) {α : Type} (L : Int → Int → (List Int) → (List Int) → ((List Int) → Option α) → Int → (List Int) → Option α) (ls : List Lf) (k : Ex → St → Option α) :
    g118l0K (fun v1196 v1197 a1199 a1200 k1223 v1198 a1201 => g118l0b v1196 v1197 a1199 a1200 k1223 (L v1196 v1197 a1199 a1200 k1223) v1198 a1201) ls k = ev tab (g118hd L_g118l0) (bodyAt Go.Proofs.Try.f118 0) (atHead g118l0D ls) (loopK g118l0D 0 (loopH g118l0D (g118l0K L)) k) := by kernel_rfl
theorem g118Main  (L_g118l0 : {α : Type} → Int → Int → (List Int) → (List Int) → ((List Int) → Option α) → Int → (List Int) → Option α) {α : Type} (ls : List Lf) (k : TV → List (List Seg) → List (List Seg) → Option α) :
    g118K (g118b L_g118l0) ls k = evFun tab (g118hd L_g118l0) Go.Proofs.Try.f118 (fillT g118tp ls).1 (fillB g118bp (fillT g118tp ls).2).1 k := by kernel_rfl
theorem g118Calls (m : Nat) : (g118h m).CallsOk Go.Proofs.Try.prog := cok_nil
theorem g118l0Ok (m : Nat) (α : Type) (st : St) (k : Ex → St → Option α) (r : α) (h : (g118h m).loop 0 st k = some r) :
    ∃ e st', k e st' = some r ∧ CodeS Go.Proofs.Try.prog (.block 0 (.loop (bodyAt Go.Proofs.Try.f118 0))) st e st' :=
  loop_ok (tab := tab) (h := g118h m) (F := fun n ls k => g118l0K (fun v1196 v1197 a1199 a1200 k1223 v1198 a1201 => g118l0 v1196 v1197 a1199 a1200 k1223 n v1198 a1201) ls k) tabOk (g118Calls m) mixed (loopsOk_of _ (fun p hp => by rw [show loopsOf (bodyAt Go.Proofs.Try.f118 0) = [] by kernel_rfl] at hp; cases hp))
    (fun _ _ => rfl) (fun n ls k => g118l0Step (g118l0M m) (fun v1196 v1197 a1199 a1200 k1223 => g118l0 v1196 v1197 a1199 a1200 k1223 n) ls k) (n := m) h
theorem g118Fn (m : Nat) : FnOk Go.Proofs.Try.prog 118 g118tp g118bp (fun {α} => g118K (g118 (α := α) m)) :=
  fn_ok (tab := tab) (h := g118h m) (fn := Go.Proofs.Try.f118) (F := fun {α} => g118K (g118 (α := α) m)) tabOk (g118Calls m) mixed (by kernel_rfl) (by kernel_rfl) (fun c hc => by
    rw [bodyOf_some hc]
    exact loopsOk_of _ (fun p hp => by
    rw [show loopsOf (bodyOf Go.Proofs.Try.f118) = [(0, bodyAt Go.Proofs.Try.f118 0)] by kernel_rfl] at hp
    simp only [List.mem_cons, List.not_mem_nil, or_false] at hp
    rcases hp with rfl
    exact g118l0Ok m))
    (fun α ls k => g118Main (g118l0M m) ls k)
theorem g118Ok (m : Nat) : RowOk Go.Proofs.Try.prog 118 (fun {α} => rowK g118tp g118bp (g118K (g118 (α := α) m))) := row_of (g118Fn m)

/-! ### g109: impl.one -/
def g109b {α : Type}    (k1229 : (List Int) → Option α) : Option α :=
  k1229 [(1 : Int), 0, 0, 0, 0, 0]
def g109 {α : Type} (m : Nat) : ((List Int) → Option α) → Option α :=
  g109b
def g109tp : List TP := []
def g109bp : List BP := []
def g109K {α : Type} (G : ((List Int) → Option α) → Option α) (ls : List Lf) (k : TV → List (List Seg) → List (List Seg) → Option α) : Option α :=
  G 
    (fun y0 => k (.vl (.agg [(.seq (.int .u32) 6 y0)])) [] [])
def g109hd   : Hd where
  call := fun f args Bs k => none
  loop := fun id st k => none
  ro := fun f => []
def g109h (m : Nat) : Hd := g109hd
theorem g109Main   {α : Type} (ls : List Lf) (k : TV → List (List Seg) → List (List Seg) → Option α) :
    g109K (g109b) ls k = evFun tab (g109hd) Go.Proofs.Try.f109 (fillT g109tp ls).1 (fillB g109bp (fillT g109tp ls).2).1 k := by kernel_rfl
theorem g109Calls (m : Nat) : (g109h m).CallsOk Go.Proofs.Try.prog := cok_nil
theorem g109Fn (m : Nat) : FnOk Go.Proofs.Try.prog 109 g109tp g109bp (fun {α} => g109K (g109 (α := α) m)) :=
  fn_ok (tab := tab) (h := g109h m) (fn := Go.Proofs.Try.f109) (F := fun {α} => g109K (g109 (α := α) m)) tabOk (g109Calls m) mixed (by kernel_rfl) (by kernel_rfl) (fun c hc => by
    rw [bodyOf_some hc]
    exact loopsOk_of _ (fun p hp => by rw [show loopsOf (bodyOf Go.Proofs.Try.f109) = [] by kernel_rfl] at hp; cases hp))
    (fun α ls k => g109Main ls k)
theorem g109Ok (m : Nat) : RowOk Go.Proofs.Try.prog 109 (fun {α} => rowK g109tp g109bp (g109K (g109 (α := α) m))) := row_of (g109Fn m)

/-! ### g86: (*impl.calc).near -/
def g86b {α : Type} (G_g118 : {α : Type} → (List Int) → Int → ((List Int) → Option α) → Option α) (G_g109 : {α : Type} → ((List Int) → Option α) → Option α) (G_g117 : {α : Type} → (List Int) → Int → ((List Int) → Option α) → Option α) (G_g110 : {α : Type} → (List Int) → (List Int) → ((List Int) → Option α) → Option α) (G_g111 : {α : Type} → (List Int) → (List Int) → (Int → Option α) → Option α) (G_g108 : {α : Type} → (List Int) → (List Int) → ((List Int) → Bool → Option α) → Option α) (G_g67 : {α : Type} → Bool → (List Int) → (Bool → Option α) → Option α)  (q1187 : Bool) (u1188 : List Int) (p1189 : Int) (q1190 : Bool) (k1249 : Bool → (List Int) → Bool → Option α) : Option α :=
  cond (decide (p1189 > (191 : Int)))
   (
    k1249 false [0, 0, 0, 0, 0, 0] true)
   (
    G_g118 u1188 p1189
      (fun l1227 =>
        cond (p1189 == (0 : Int))
         (
          k1249 q1187 u1188 q1190)
         (
          G_g109
            (fun l1230 =>
              G_g117 l1230 (IntKind.wrap .i64 (p1189 - (1 : Int)))
                (fun l1232 =>
                  G_g117 l1227 p1189
                    (fun l1233 =>
                      G_g110 u1188 l1233
                        (fun l1234 =>
                          G_g111 l1234 l1232
                            (fun x1235 =>
                              cond (decide (x1235 > (0 : Int)))
                               (
                                G_g109
                                  (fun l1237 =>
                                    G_g108 l1227 l1237
                                      (fun l1238 b1239 =>
                                        G_g67 q1187 l1238
                                          (fun b1240 =>
                                            k1249 b1240 l1238 q1190))))
                               (
                                cond (x1235 == (0 : Int))
                                 (
                                  cond (!q1187)
                                   (
                                    G_g109
                                      (fun l1243 =>
                                        G_g108 l1227 l1243
                                          (fun l1244 b1245 =>
                                            G_g67 q1187 l1244
                                              (fun b1246 =>
                                                k1249 b1246 l1244 q1190))))
                                   (
                                    G_g67 q1187 l1227
                                      (fun b1247 =>
                                        k1249 b1247 l1227 q1190)))
                                 (
                                  G_g67 q1187 l1227
                                    (fun b1248 =>
                                      k1249 b1248 l1227 q1190)))))))))))
def g86 {α : Type} (m : Nat) : Bool → (List Int) → Int → Bool → (Bool → (List Int) → Bool → Option α) → Option α :=
  g86b (g118 m) (g109 m) (g117 m) (g110 m) (g111 m) (g108 m) (g67 m)
def g86tp : List TP := [(.vl (.sv (.ptr 0 0))), (.vl (.agg [(.one .bool), (.seq (.int .u32) 6)])), (.vl (.sv (.int .i64)))]
def g86bp : List BP := [(true, [(.one .bool)])]
def g86K {α : Type} (G : Bool → (List Int) → Int → Bool → (Bool → (List Int) → Bool → Option α) → Option α) (ls : List Lf) (k : TV → List (List Seg) → List (List Seg) → Option α) : Option α :=
  G (lf ls 0).bool ((lf ls 1).lst (.int .u32)) (lf ls 2).int (lf ls 3).bool
    (fun y0 y1 y2 => k (.vl (.agg [(.one (.bool y0)), (.seq (.int .u32) 6 y1)])) [[(.one (.bool y2))]] [])
def g86hd (G_g118 : {α : Type} → (List Int) → Int → ((List Int) → Option α) → Option α) (G_g109 : {α : Type} → ((List Int) → Option α) → Option α) (G_g117 : {α : Type} → (List Int) → Int → ((List Int) → Option α) → Option α) (G_g110 : {α : Type} → (List Int) → (List Int) → ((List Int) → Option α) → Option α) (G_g111 : {α : Type} → (List Int) → (List Int) → (Int → Option α) → Option α) (G_g108 : {α : Type} → (List Int) → (List Int) → ((List Int) → Bool → Option α) → Option α) (G_g67 : {α : Type} → Bool → (List Int) → (Bool → Option α) → Option α)  : Hd where
  call := fun f args Bs k => cond (Nat.beq f 118) (rowK g118tp g118bp (g118K G_g118) args Bs k) (cond (Nat.beq f 109) (rowK g109tp g109bp (g109K G_g109) args Bs k) (cond (Nat.beq f 117) (rowK g117tp g117bp (g117K G_g117) args Bs k) (cond (Nat.beq f 110) (rowK g110tp g110bp (g110K G_g110) args Bs k) (cond (Nat.beq f 111) (rowK g111tp g111bp (g111K G_g111) args Bs k) (cond (Nat.beq f 108) (rowK g108tp g108bp (g108K G_g108) args Bs k) (cond (Nat.beq f 67) (rowK g67tp g67bp (g67K G_g67) args Bs k) (none)))))))
  loop := fun id st k => none
  ro := fun f => []
def g86h (m : Nat) : Hd := g86hd (g118 m) (g109 m) (g117 m) (g110 m) (g111 m) (g108 m) (g67 m)
theorem g86Main (G_g118 : {α : Type} → (List Int) → Int → ((List Int) → Option α) → Option α) (G_g109 : {α : Type} → ((List Int) → Option α) → Option α) (G_g117 : {α : Type} → (List Int) → Int → ((List Int) → Option α) → Option α) (G_g110 : {α : Type} → (List Int) → (List Int) → ((List Int) → Option α) → Option α) (G_g111 : {α : Type} → (List Int) → (List Int) → (Int → Option α) → Option α) (G_g108 : {α : Type} → (List Int) → (List Int) → ((List Int) → Bool → Option α) → Option α) (G_g67 : {α : Type} → Bool → (List Int) → (Bool → Option α) → Option α)  {α : Type} (ls : List Lf) (k : TV → List (List Seg) → List (List Seg) → Option α) :
    g86K (g86b G_g118 G_g109 G_g117 G_g110 G_g111 G_g108 G_g67) ls k = evFun tab (g86hd G_g118 G_g109 G_g117 G_g110 G_g111 G_g108 G_g67) Go.Proofs.Try.f86 (fillT g86tp ls).1 (fillB g86bp (fillT g86tp ls).2).1 k := by kernel_rfl
theorem g86Calls (m : Nat) : (g86h m).CallsOk Go.Proofs.Try.prog := (cok_cons (g118Ok m) (cok_cons (g109Ok m) (cok_cons (g117Ok m) (cok_cons (g110Ok m) (cok_cons (g111Ok m) (cok_cons (g108Ok m) (cok_cons (g67Ok m) cok_nil)))))))
theorem g86Fn (m : Nat) : FnOk Go.Proofs.Try.prog 86 g86tp g86bp (fun {α} => g86K (g86 (α := α) m)) :=
  fn_ok (tab := tab) (h := g86h m) (fn := Go.Proofs.Try.f86) (F := fun {α} => g86K (g86 (α := α) m)) tabOk (g86Calls m) mixed (by kernel_rfl) (by kernel_rfl) (fun c hc => by
    rw [bodyOf_some hc]
    exact loopsOk_of _ (fun p hp => by rw [show loopsOf (bodyOf Go.Proofs.Try.f86) = [] by kernel_rfl] at hp; cases hp))
    (fun α ls k => g86Main (g118 m) (g109 m) (g117 m) (g110 m) (g111 m) (g108 m) (g67 m) ls k)
theorem g86Ok (m : Nat) : RowOk Go.Proofs.Try.prog 86 (fun {α} => rowK g86tp g86bp (g86K (g86 (α := α) m))) := row_of (g86Fn m)

/-! ### g41: impl.ShiftNear -/
def g41b {α : Type} (G_g24 : {α : Type} → Bool → (List Int) → (Bool → Option α) → Option α) (G_g84 : {α : Type} → Int → Int → Int → (Bool → Option α) → Option α) (G_g86 : {α : Type} → Bool → (List Int) → Int → Bool → (Bool → (List Int) → Bool → Option α) → Option α) (G_g74 : {α : Type} → Bool → (List Int) → Bool → (Bool → (List Int) → Int → Option α) → Option α)  (q1180 : Bool) (u1181 : List Int) (p1182 : Int) (k1256 : Bool → (List Int) → Int → Option α) : Option α :=
  G_g24 q1180 u1181
    (fun b1183 =>
      cond (!b1183)
       (
        k1256 false [0, 0, 0, 0, 0, 0] (1 : Int))
       (
        G_g84 p1182 (0 : Int) (191 : Int)
          (fun b1185 =>
            cond (!b1185)
             (
              k1256 false [0, 0, 0, 0, 0, 0] (2 : Int))
             (
              G_g86 q1180 u1181 p1182 false
                (fun b1250 l1251 b1252 =>
                  G_g74 b1250 l1251 b1252
                    (fun b1253 l1254 x1255 =>
                      k1256 b1253 l1254 x1255))))))
def g41 {α : Type} (m : Nat) : Bool → (List Int) → Int → (Bool → (List Int) → Int → Option α) → Option α :=
  g41b (g24 m) (g84 m) (g86 m) (g74 m)
def g41tp : List TP := [(.vl (.agg [(.one .bool), (.seq (.int .u32) 6)])), (.vl (.sv (.int .i64)))]
def g41bp : List BP := []
def g41K {α : Type} (G : Bool → (List Int) → Int → (Bool → (List Int) → Int → Option α) → Option α) (ls : List Lf) (k : TV → List (List Seg) → List (List Seg) → Option α) : Option α :=
  G (lf ls 0).bool ((lf ls 1).lst (.int .u32)) (lf ls 2).int
    (fun y0 y1 y2 => k (.tup [(.agg [(.one (.bool y0)), (.seq (.int .u32) 6 y1)]), (.sv (.int .i64 y2))]) [] [])
def g41hd (G_g24 : {α : Type} → Bool → (List Int) → (Bool → Option α) → Option α) (G_g84 : {α : Type} → Int → Int → Int → (Bool → Option α) → Option α) (G_g86 : {α : Type} → Bool → (List Int) → Int → Bool → (Bool → (List Int) → Bool → Option α) → Option α) (G_g74 : {α : Type} → Bool → (List Int) → Bool → (Bool → (List Int) → Int → Option α) → Option α)  : Hd where
  call := fun f args Bs k => cond (Nat.beq f 24) (rowK g24tp g24bp (g24K G_g24) args Bs k) (cond (Nat.beq f 84) (rowK g84tp g84bp (g84K G_g84) args Bs k) (cond (Nat.beq f 86) (rowK g86tp g86bp (g86K G_g86) args Bs k) (cond (Nat.beq f 74) (rowK g74tp g74bp (g74K G_g74) args Bs k) (none))))
  loop := fun id st k => none
  ro := fun f => cond (Nat.beq f 74) [0] ([])
def g41h (m : Nat) : Hd := g41hd (g24 m) (g84 m) (g86 m) (g74 m)
theorem g41Main (G_g24 : {α : Type} → Bool → (List Int) → (Bool → Option α) → Option α) (G_g84 : {α : Type} → Int → Int → Int → (Bool → Option α) → Option α) (G_g86 : {α : Type} → Bool → (List Int) → Int → Bool → (Bool → (List Int) → Bool → Option α) → Option α) (G_g74 : {α : Type} → Bool → (List Int) → Bool → (Bool → (List Int) → Int → Option α) → Option α)  {α : Type} (ls : List Lf) (k : TV → List (List Seg) → List (List Seg) → Option α) :
    g41K (g41b G_g24 G_g84 G_g86 G_g74) ls k = evFun tab (g41hd G_g24 G_g84 G_g86 G_g74) Go.Proofs.Try.f41 (fillT g41tp ls).1 (fillB g41bp (fillT g41tp ls).2).1 k := by kernel_rfl
theorem g41Calls (m : Nat) : (g41h m).CallsOk Go.Proofs.Try.prog := (cok_cons (g24Ok m) (cok_cons (g84Ok m) (cok_cons (g86Ok m) (cok_cons (g74Ok m) cok_nil))))
theorem g41Fn (m : Nat) : FnOk Go.Proofs.Try.prog 41 g41tp g41bp (fun {α} => g41K (g41 (α := α) m)) :=
  fn_ok (tab := tab) (h := g41h m) (fn := Go.Proofs.Try.f41) (F := fun {α} => g41K (g41 (α := α) m)) tabOk (g41Calls m) mixed (by kernel_rfl) (by kernel_rfl) (fun c hc => by
    rw [bodyOf_some hc]
    exact loopsOk_of _ (fun p hp => by rw [show loopsOf (bodyOf Go.Proofs.Try.f41) = [] by kernel_rfl] at hp; cases hp))
    (fun α ls k => g41Main (g24 m) (g84 m) (g86 m) (g74 m) ls k)
theorem g41Ok (m : Nat) : RowOk Go.Proofs.Try.prog 41 (fun {α} => rowK g41tp g41bp (g41K (g41 (α := α) m))) := row_of (g41Fn m)

/-! ### g16: laws.FnExactShiftNear -/
def g16b {α : Type} (G_g23 : {α : Type} → Bool → (List Int) → ((List Int) → Option α) → Option α) (G_g59 : {α : Type} → Bool → (List Int) → Int → (Bool → (List Int) → Int → Option α) → Option α) (G_g41 : {α : Type} → Bool → (List Int) → Int → (Bool → (List Int) → Int → Option α) → Option α) (G_g27 : {α : Type} → Bool → (List Int) → Bool → (List Int) → (Bool → Option α) → Option α)  (q1097 : Bool) (u1098 : List Int) (p1099 : Int) (k1263 : Bool → Option α) : Option α :=
  G_g23 q1097 u1098
    (fun l1100 =>
      G_g59 q1097 l1100 p1099
        (fun b1176 l1177 x1178 =>
          G_g23 q1097 u1098
            (fun l1179 =>
              G_g41 q1097 l1179 p1099
                (fun b1257 l1258 x1259 =>
                  G_g27 b1257 l1258 b1176 l1177
                    (fun b1260 =>
                      cond (!b1260)
                       (
                        k1263 false)
                       (
                        cond (x1259 != x1178)
                         (
                          k1263 false)
                         (
                          k1263 true)))))))
def g16 {α : Type} (m : Nat) : Bool → (List Int) → Int → (Bool → Option α) → Option α :=
  g16b (g23 m) (g59 m) (g41 m) (g27 m)
def g16tp : List TP := [(.vl (.agg [(.one .bool), (.seq (.int .u32) 6)])), (.vl (.sv (.int .i64)))]
def g16bp : List BP := []
def g16K {α : Type} (G : Bool → (List Int) → Int → (Bool → Option α) → Option α) (ls : List Lf) (k : TV → List (List Seg) → List (List Seg) → Option α) : Option α :=
  G (lf ls 0).bool ((lf ls 1).lst (.int .u32)) (lf ls 2).int
    (fun y0 => k (.vl (.sv (.bool y0))) [] [])
def g16hd (G_g23 : {α : Type} → Bool → (List Int) → ((List Int) → Option α) → Option α) (G_g59 : {α : Type} → Bool → (List Int) → Int → (Bool → (List Int) → Int → Option α) → Option α) (G_g41 : {α : Type} → Bool → (List Int) → Int → (Bool → (List Int) → Int → Option α) → Option α) (G_g27 : {α : Type} → Bool → (List Int) → Bool → (List Int) → (Bool → Option α) → Option α)  : Hd where
  call := fun f args Bs k => cond (Nat.beq f 23) (rowK g23tp g23bp (g23K G_g23) args Bs k) (cond (Nat.beq f 59) (rowK g59tp g59bp (g59K G_g59) args Bs k) (cond (Nat.beq f 41) (rowK g41tp g41bp (g41K G_g41) args Bs k) (cond (Nat.beq f 27) (rowK g27tp g27bp (g27K G_g27) args Bs k) (none))))
  loop := fun id st k => none
  ro := fun f => []
def g16h (m : Nat) : Hd := g16hd (g23 m) (g59 m) (g41 m) (g27 m)
theorem g16Main (G_g23 : {α : Type} → Bool → (List Int) → ((List Int) → Option α) → Option α) (G_g59 : {α : Type} → Bool → (List Int) → Int → (Bool → (List Int) → Int → Option α) → Option α) (G_g41 : {α : Type} → Bool → (List Int) → Int → (Bool → (List Int) → Int → Option α) → Option α) (G_g27 : {α : Type} → Bool → (List Int) → Bool → (List Int) → (Bool → Option α) → Option α)  {α : Type} (ls : List Lf) (k : TV → List (List Seg) → List (List Seg) → Option α) :
    g16K (g16b G_g23 G_g59 G_g41 G_g27) ls k = evFun tab (g16hd G_g23 G_g59 G_g41 G_g27) Go.Proofs.Try.f16 (fillT g16tp ls).1 (fillB g16bp (fillT g16tp ls).2).1 k := by kernel_rfl
theorem g16Calls (m : Nat) : (g16h m).CallsOk Go.Proofs.Try.prog := (cok_cons (g23Ok m) (cok_cons (g59Ok m) (cok_cons (g41Ok m) (cok_cons (g27Ok m) cok_nil))))
theorem g16Fn (m : Nat) : FnOk Go.Proofs.Try.prog 16 g16tp g16bp (fun {α} => g16K (g16 (α := α) m)) :=
  fn_ok (tab := tab) (h := g16h m) (fn := Go.Proofs.Try.f16) (F := fun {α} => g16K (g16 (α := α) m)) tabOk (g16Calls m) mixed (by kernel_rfl) (by kernel_rfl) (fun c hc => by
    rw [bodyOf_some hc]
    exact loopsOk_of _ (fun p hp => by rw [show loopsOf (bodyOf Go.Proofs.Try.f16) = [] by kernel_rfl] at hp; cases hp))
    (fun α ls k => g16Main (g23 m) (g59 m) (g41 m) (g27 m) ls k)
theorem g16Ok (m : Nat) : RowOk Go.Proofs.Try.prog 16 (fun {α} => rowK g16tp g16bp (g16K (g16 (α := α) m))) := row_of (g16Fn m)

/-! ### g105: spec.l01Root -/
def g105l0b {α : Type} (G_g66 : {α : Type} → Int → (Bool → (List Int) → Option α) → Option α) (G_g99 : {α : Type} → Bool → (List Int) → Int → (Bool → (List Int) → Int → Option α) → Option α) (G_g81 : {α : Type} → Bool → (List Int) → Bool → (List Int) → (Bool → (List Int) → Int → Option α) → Option α) (G_g97 : {α : Type} → Bool → (List Int) → Bool → (List Int) → (Bool → (List Int) → Int → Option α) → Option α) (G_g82 : {α : Type} → Bool → (List Int) → Bool → (List Int) → (Int → Option α) → Option α)  (c1277 : Bool) (a1278 : List Int) (c1279 : Bool) (a1280 : List Int) (k1305 : Bool → (List Int) → Option α) (r1306 : Int → Bool → (List Int) → Option α) (v1276 : Int) (c1281 : Bool) (a1282 : List Int) : Option α :=
  cond (decide (v1276 ≥ (0 : Int)))
   (
    G_g66 (1 : Int)
      (fun b1284 l1285 =>
        G_g99 b1284 l1285 v1276
          (fun b1286 l1287 x1288 =>
            G_g81 c1281 a1282 b1286 l1287
              (fun b1289 l1290 x1291 =>
                cond (x1288 != (0 : Int))
                 (
                  r1306 (IntKind.wrap .i64 (v1276 - (1 : Int))) c1281 a1282)
                 (
                  cond (x1291 != (0 : Int))
                   (
                    r1306 (IntKind.wrap .i64 (v1276 - (1 : Int))) c1281 a1282)
                   (
                    G_g97 b1289 l1290 b1289 l1290
                      (fun b1296 l1297 x1298 =>
                        cond (x1298 == (0 : Int))
                         (
                          G_g82 b1296 l1297 c1277 a1278
                            (fun x1300 =>
                              cond (decide (x1300 ≤ (0 : Int)))
                               (
                                r1306 (IntKind.wrap .i64 (v1276 - (1 : Int))) b1289 l1290)
                               (
                                r1306 (IntKind.wrap .i64 (v1276 - (1 : Int))) c1281 a1282)))
                         (
                          r1306 (IntKind.wrap .i64 (v1276 - (1 : Int))) c1281 a1282))))))))
   (
    k1305 c1281 a1282)
def g105l0 {α : Type} (G_g66 : {α : Type} → Int → (Bool → (List Int) → Option α) → Option α) (G_g99 : {α : Type} → Bool → (List Int) → Int → (Bool → (List Int) → Int → Option α) → Option α) (G_g81 : {α : Type} → Bool → (List Int) → Bool → (List Int) → (Bool → (List Int) → Int → Option α) → Option α) (G_g97 : {α : Type} → Bool → (List Int) → Bool → (List Int) → (Bool → (List Int) → Int → Option α) → Option α) (G_g82 : {α : Type} → Bool → (List Int) → Bool → (List Int) → (Int → Option α) → Option α)  (c1277 : Bool) (a1278 : List Int) (c1279 : Bool) (a1280 : List Int) (k1305 : Bool → (List Int) → Option α) : Nat → Int → Bool → (List Int) → Option α
  | 0 => fun _ _ _ => none
  | m + 1 => fun v1276 c1281 a1282 => g105l0b G_g66 G_g99 G_g81 G_g97 G_g82 c1277 a1278 c1279 a1280 k1305 (g105l0 G_g66 G_g99 G_g81 G_g97 G_g82 c1277 a1278 c1279 a1280 k1305 m) v1276 c1281 a1282
def g105l0M {α : Type} (m : Nat) : Bool → (List Int) → Bool → (List Int) → (Bool → (List Int) → Option α) → Int → Bool → (List Int) → Option α :=
  fun c1277 a1278 c1279 a1280 k1305 v1276 c1281 a1282 => g105l0 (g66 m) (g99 m) (g81 m) (g97 m) (g82 m) c1277 a1278 c1279 a1280 k1305 m v1276 c1281 a1282
def g105l0D : LoopD := { n := 54, sl := [1, 2, 4, 5], bl := [1001, 1002, 1004], tp := [(.vl (.sv (.ptr 1001 0))), (.vl (.sv (.ptr 1002 0))), (.vl (.sv (.ptr 1004 0))), (.vl (.sv (.int .i64)))], bp := [(true, [(.one .bool), (.seq (.int .u32) 6)]), (true, [(.one .bool), (.seq (.int .u32) 6)]), (true, [(.one .bool), (.seq (.int .u32) 6)])], xs := [(2, [2, 4], [1002, 1004])] }
def g105l0K {α : Type} (L : Bool → (List Int) → Bool → (List Int) → (Bool → (List Int) → Option α) → Int → Bool → (List Int) → Option α) (ls : List Lf) (k : Ex → St → Option α) : Option α :=
  L (lf ls 1).bool ((lf ls 2).lst (.int .u32)) (lf ls 3).bool ((lf ls 4).lst (.int .u32))
    (fun y2 y3 => k .normal (mkSt 54 [2, 4] [(.vl (.sv (.ptr 1002 0))), (.vl (.sv (.ptr 1004 0)))] [1002, 1004] [(true, [(.one (.bool (lf ls 3).bool)), (.seq (.int .u32) 6 ((lf ls 4).lst (.int .u32)))]), (true, [(.one (.bool y2)), (.seq (.int .u32) 6 y3)])]))
    (lf ls 0).int (lf ls 5).bool ((lf ls 6).lst (.int .u32))
def g105b {α : Type} (G_g93 : {α : Type} → (List Int) → (Int → Option α) → Option α) (G_g66 : {α : Type} → Int → (Bool → (List Int) → Option α) → Option α) (G_g99 : {α : Type} → Bool → (List Int) → Int → (Bool → (List Int) → Int → Option α) → Option α) (G_g81 : {α : Type} → Bool → (List Int) → Bool → (List Int) → (Bool → (List Int) → Int → Option α) → Option α) (G_g97 : {α : Type} → Bool → (List Int) → Bool → (List Int) → (Bool → (List Int) → Int → Option α) → Option α) (G_g82 : {α : Type} → Bool → (List Int) → Bool → (List Int) → (Int → Option α) → Option α) (L_g105l0 : {α : Type} → Bool → (List Int) → Bool → (List Int) → (Bool → (List Int) → Option α) → Int → Bool → (List Int) → Option α) (q1271 : Bool) (u1272 : List Int) (k1309 : Bool → (List Int) → Option α) : Option α :=
  G_g93 u1272
    (fun x1273 =>
      L_g105l0 q1271 u1272 false [0, 0, 0, 0, 0, 0]
        (fun b1307 l1308 =>
          k1309 b1307 l1308)
        (IntKind.wrap .i64 (Int.tdiv (IntKind.wrap .i64 (x1273 + (1 : Int))) (2 : Int))) false [0, 0, 0, 0, 0, 0])
def g105 {α : Type} (m : Nat) : Bool → (List Int) → (Bool → (List Int) → Option α) → Option α :=
  g105b (g93 m) (g66 m) (g99 m) (g81 m) (g97 m) (g82 m) (g105l0M m)
def g105tp : List TP := [(.vl (.agg [(.one .bool), (.seq (.int .u32) 6)]))]
def g105bp : List BP := []
def g105K {α : Type} (G : Bool → (List Int) → (Bool → (List Int) → Option α) → Option α) (ls : List Lf) (k : TV → List (List Seg) → List (List Seg) → Option α) : Option α :=
  G (lf ls 0).bool ((lf ls 1).lst (.int .u32))
    (fun y0 y1 => k (.vl (.agg [(.one (.bool y0)), (.seq (.int .u32) 6 y1)])) [] [])
def g105hd (G_g93 : {α : Type} → (List Int) → (Int → Option α) → Option α) (G_g66 : {α : Type} → Int → (Bool → (List Int) → Option α) → Option α) (G_g99 : {α : Type} → Bool → (List Int) → Int → (Bool → (List Int) → Int → Option α) → Option α) (G_g81 : {α : Type} → Bool → (List Int) → Bool → (List Int) → (Bool → (List Int) → Int → Option α) → Option α) (G_g97 : {α : Type} → Bool → (List Int) → Bool → (List Int) → (Bool → (List Int) → Int → Option α) → Option α) (G_g82 : {α : Type} → Bool → (List Int) → Bool → (List Int) → (Int → Option α) → Option α) (L_g105l0 : {α : Type} → Bool → (List Int) → Bool → (List Int) → (Bool → (List Int) → Option α) → Int → Bool → (List Int) → Option α) : Hd where
  call := fun f args Bs k => cond (Nat.beq f 93) (rowK g93tp g93bp (g93K G_g93) args Bs k) (cond (Nat.beq f 66) (rowK g66tp g66bp (g66K G_g66) args Bs k) (cond (Nat.beq f 99) (rowK g99tp g99bp (g99K G_g99) args Bs k) (cond (Nat.beq f 81) (rowK g81tp g81bp (g81K G_g81) args Bs k) (cond (Nat.beq f 97) (rowK g97tp g97bp (g97K G_g97) args Bs k) (cond (Nat.beq f 82) (rowK g82tp g82bp (g82K G_g82) args Bs k) (none))))))
  loop := fun id st k => cond (Nat.beq id 0) (loopH g105l0D (g105l0K L_g105l0) st k) (none)
  ro := fun f => cond (Nat.beq f 82) [0, 1] (cond (Nat.beq f 93) [0] ([]))
def g105h (m : Nat) : Hd := g105hd (g93 m) (g66 m) (g99 m) (g81 m) (g97 m) (g82 m) (g105l0M m)
theorem g105l0Step (G_g93 : {α : Type} → (List Int) → (Int → Option α) → Option α) (G_g66 : {α : Type} → Int → (Bool → (List Int) → Option α) → Option α) (G_g99 : {α : Type} → Bool → (List Int) → Int → (Bool → (List Int) → Int → Option α) → Option α) (G_g81 : {α : Type} → Bool → (List Int) → Bool → (List Int) → (Bool → (List Int) → Int → Option α) → Option α) (G_g97 : {α : Type} → Bool → (List Int) → Bool → (List Int) → (Bool → (List Int) → Int → Option α) → Option α) (G_g82 : {α : Type} → Bool → (List Int) → Bool → (List Int) → (Int → Option α) → Option α) (L_g105l0 : {α : Type} → Bool → (List Int) → Bool → (List Int) → (Bool → (List Int) → Option α) → Int → Bool → (List Int) → Option α) {α : Type} (L : Bool → (List Int) → Bool → (List Int) → (Bool → (List Int) → Option α) → Int → Bool → (List Int) → Option α) (ls : List Lf) (k : Ex → St → Option α) :
    g105l0K (fun c1277 a1278 c1279 a1280 k1305 v1276 c1281 a1282 => g105l0b G_g66 G_g99 G_g81 G_g97 G_g82 c1277 a1278 c1279 a1280 k1305 (L c1277 a1278 c1279 a1280 k1305) v1276 c1281 a1282) ls k = ev tab (g105hd G_g93 G_g66 G_g99 G_g81 G_g97 G_g82 L_g105l0) (bodyAt Go.Proofs.Try.f105 0) (atHead g105l0D ls) (loopK g105l0D 0 (loopH g105l0D (g105l0K L)) k) := by kernel_rfl
theorem g105Main (G_g93 : {α : Type} → (List Int) → (Int → Option α) → Option α) (G_g66 : {α : Type} → Int → (Bool → (List Int) → Option α) → Option α) (G_g99 : {α : Type} → Bool → (List Int) → Int → (Bool → (List Int) → Int → Option α) → Option α) (G_g81 : {α : Type} → Bool → (List Int) → Bool → (List Int) → (Bool → (List Int) → Int → Option α) → Option α) (G_g97 : {α : Type} → Bool → (List Int) → Bool → (List Int) → (Bool → (List Int) → Int → Option α) → Option α) (G_g82 : {α : Type} → Bool → (List Int) → Bool → (List Int) → (Int → Option α) → Option α) (L_g105l0 : {α : Type} → Bool → (List Int) → Bool → (List Int) → (Bool → (List Int) → Option α) → Int → Bool → (List Int) → Option α) {α : Type} (ls : List Lf) (k : TV → List (List Seg) → List (List Seg) → Option α) :
    g105K (g105b G_g93 G_g66 G_g99 G_g81 G_g97 G_g82 L_g105l0) ls k = evFun tab (g105hd G_g93 G_g66 G_g99 G_g81 G_g97 G_g82 L_g105l0) Go.Proofs.Try.f105 (fillT g105tp ls).1 (fillB g105bp (fillT g105tp ls).2).1 k := by kernel_rfl
theorem g105Calls (m : Nat) : (g105h m).CallsOk Go.Proofs.Try.prog := (cok_cons (g93Ok m) (cok_cons (g66Ok m) (cok_cons (g99Ok m) (cok_cons (g81Ok m) (cok_cons (g97Ok m) (cok_cons (g82Ok m) cok_nil))))))
theorem g105l0Ok (m : Nat) (α : Type) (st : St) (k : Ex → St → Option α) (r : α) (h : (g105h m).loop 0 st k = some r) :
    ∃ e st', k e st' = some r ∧ CodeS Go.Proofs.Try.prog (.block 0 (.loop (bodyAt Go.Proofs.Try.f105 0))) st e st' :=
  loop_ok (tab := tab) (h := g105h m) (F := fun n ls k => g105l0K (fun c1277 a1278 c1279 a1280 k1305 v1276 c1281 a1282 => g105l0 (g66 m) (g99 m) (g81 m) (g97 m) (g82 m) c1277 a1278 c1279 a1280 k1305 n v1276 c1281 a1282) ls k) tabOk (g105Calls m) mixed (loopsOk_of _ (fun p hp => by rw [show loopsOf (bodyAt Go.Proofs.Try.f105 0) = [] by kernel_rfl] at hp; cases hp))
    (fun _ _ => rfl) (fun n ls k => g105l0Step (g93 m) (g66 m) (g99 m) (g81 m) (g97 m) (g82 m) (g105l0M m) (fun c1277 a1278 c1279 a1280 k1305 => g105l0 (g66 m) (g99 m) (g81 m) (g97 m) (g82 m) c1277 a1278 c1279 a1280 k1305 n) ls k) (n := m) h
theorem g105Fn (m : Nat) : FnOk Go.Proofs.Try.prog 105 g105tp g105bp (fun {α} => g105K (g105 (α := α) m)) :=
  fn_ok (tab := tab) (h := g105h m) (fn := Go.Proofs.Try.f105) (F := fun {α} => g105K (g105 (α := α) m)) tabOk (g105Calls m) mixed (by kernel_rfl) (by kernel_rfl) (fun c hc => by
    rw [bodyOf_some hc]
    exact loopsOk_of _ (fun p hp => by
    rw [show loopsOf (bodyOf Go.Proofs.Try.f105) = [(0, bodyAt Go.Proofs.Try.f105 0)] by kernel_rfl] at hp
    simp only [List.mem_cons, List.not_mem_nil, or_false] at hp
    rcases hp with rfl
    exact g105l0Ok m))
    (fun α ls k => g105Main (g93 m) (g66 m) (g99 m) (g81 m) (g97 m) (g82 m) (g105l0M m) ls k)
theorem g105Ok (m : Nat) : RowOk Go.Proofs.Try.prog 105 (fun {α} => rowK g105tp g105bp (g105K (g105 (α := α) m))) := row_of (g105Fn m)

/-! ### g63: spec.RootWide -/
def g63b {α : Type} (G_g64 : {α : Type} → Bool → (List Int) → (Bool → Option α) → Option α) (G_g105 : {α : Type} → Bool → (List Int) → (Bool → (List Int) → Option α) → Option α)  (q1267 : Bool) (u1268 : List Int) (k1312 : Bool → (List Int) → Int → Option α) : Option α :=
  G_g64 q1267 u1268
    (fun b1269 =>
      cond (!b1269)
       (
        k1312 false [0, 0, 0, 0, 0, 0] (1 : Int))
       (
        cond q1267
         (
          k1312 false [0, 0, 0, 0, 0, 0] (2 : Int))
         (
          G_g105 q1267 u1268
            (fun b1310 l1311 =>
              k1312 b1310 l1311 (0 : Int)))))
def g63 {α : Type} (m : Nat) : Bool → (List Int) → (Bool → (List Int) → Int → Option α) → Option α :=
  g63b (g64 m) (g105 m)
def g63tp : List TP := [(.vl (.agg [(.one .bool), (.seq (.int .u32) 6)]))]
def g63bp : List BP := []
def g63K {α : Type} (G : Bool → (List Int) → (Bool → (List Int) → Int → Option α) → Option α) (ls : List Lf) (k : TV → List (List Seg) → List (List Seg) → Option α) : Option α :=
  G (lf ls 0).bool ((lf ls 1).lst (.int .u32))
    (fun y0 y1 y2 => k (.tup [(.agg [(.one (.bool y0)), (.seq (.int .u32) 6 y1)]), (.sv (.int .i64 y2))]) [] [])
def g63hd (G_g64 : {α : Type} → Bool → (List Int) → (Bool → Option α) → Option α) (G_g105 : {α : Type} → Bool → (List Int) → (Bool → (List Int) → Option α) → Option α)  : Hd where
  call := fun f args Bs k => cond (Nat.beq f 64) (rowK g64tp g64bp (g64K G_g64) args Bs k) (cond (Nat.beq f 105) (rowK g105tp g105bp (g105K G_g105) args Bs k) (none))
  loop := fun id st k => none
  ro := fun f => cond (Nat.beq f 64) [0] ([])
def g63h (m : Nat) : Hd := g63hd (g64 m) (g105 m)
theorem g63Main (G_g64 : {α : Type} → Bool → (List Int) → (Bool → Option α) → Option α) (G_g105 : {α : Type} → Bool → (List Int) → (Bool → (List Int) → Option α) → Option α)  {α : Type} (ls : List Lf) (k : TV → List (List Seg) → List (List Seg) → Option α) :
    g63K (g63b G_g64 G_g105) ls k = evFun tab (g63hd G_g64 G_g105) Go.Proofs.Try.f63 (fillT g63tp ls).1 (fillB g63bp (fillT g63tp ls).2).1 k := by kernel_rfl
theorem g63Calls (m : Nat) : (g63h m).CallsOk Go.Proofs.Try.prog := (cok_cons (g64Ok m) (cok_cons (g105Ok m) cok_nil))
theorem g63Fn (m : Nat) : FnOk Go.Proofs.Try.prog 63 g63tp g63bp (fun {α} => g63K (g63 (α := α) m)) :=
  fn_ok (tab := tab) (h := g63h m) (fn := Go.Proofs.Try.f63) (F := fun {α} => g63K (g63 (α := α) m)) tabOk (g63Calls m) mixed (by kernel_rfl) (by kernel_rfl) (fun c hc => by
    rw [bodyOf_some hc]
    exact loopsOk_of _ (fun p hp => by rw [show loopsOf (bodyOf Go.Proofs.Try.f63) = [] by kernel_rfl] at hp; cases hp))
    (fun α ls k => g63Main (g64 m) (g105 m) ls k)
theorem g63Ok (m : Nat) : RowOk Go.Proofs.Try.prog 63 (fun {α} => rowK g63tp g63bp (g63K (g63 (α := α) m))) := row_of (g63Fn m)
end Go.Proofs.Ytcccndkeaichcaa.Sx
