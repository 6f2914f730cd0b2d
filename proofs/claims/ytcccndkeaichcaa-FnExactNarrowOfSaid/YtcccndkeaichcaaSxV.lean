/- Functions. Printed by our own sx.py. -/
import Derived.Test.YtcccndkeaichcaaSxV0
namespace Go.Proofs.Ytcccndkeaichcaa.Sx
open Go
set_option linter.unusedVariables false
set_option maxRecDepth 100000
/-! ### g97: spec.l01Mul -/
def g97l2b {α : Type}   (v637 : Int) (c640 : Bool) (a641 : List Int) (c642 : Bool) (a643 : List Int) (c644 : Bool) (a645 : List Int) (k663 : Int → (List Int) → Option α) (r664 : Int → Int → (List Int) → Option α) (v638 : Int) (v639 : Int) (a646 : List Int) : Option α :=
  cond (decide (v639 < (6 : Int)))
   (
    if 0 ≤ v637 ∧ v637 < (6 : Nat) then
      if v637.toNat < 6 then
        if 0 ≤ v639 ∧ v639 < (6 : Nat) then
          if v639.toNat < 6 then
            let x653 : Int := IntKind.wrap .i64 (v637 + v639)
            if 0 ≤ x653 ∧ x653 < (12 : Nat) then
              if x653.toNat < 12 then
                let x657 : Int := IntKind.wrap .u64 ((IntKind.wrap .u64 ((IntKind.wrap .u64 ((IntKind.wrap .u64 (List.getD a641 v637.toNat 0)) * (IntKind.wrap .u64 (List.getD a643 v639.toNat 0)))) + (IntKind.wrap .u64 (List.getD a646 x653.toNat 0)))) + v638)
                let x658 : Int := IntKind.wrap .i64 (v637 + v639)
                if 0 ≤ x658 ∧ x658 < (12 : Nat) then
                  if x658.toNat < 12 then
                    r664 (Int.fdiv x657 (2 ^ 32)) (IntKind.wrap .i64 (v639 + (1 : Int))) (List.set a646 (x658.toNat) (IntKind.wrap .u32 x657))
                  else
                    none
                else
                  none
              else
                none
            else
              none
          else
            none
        else
          none
      else
        none
    else
      none)
   (
    k663 v638 a646)
def g97l2 {α : Type}   (v637 : Int) (c640 : Bool) (a641 : List Int) (c642 : Bool) (a643 : List Int) (c644 : Bool) (a645 : List Int) (k663 : Int → (List Int) → Option α) : Nat → Int → Int → (List Int) → Option α
  | 0 => fun _ _ _ => none
  | m + 1 => fun v638 v639 a646 => g97l2b v637 c640 a641 c642 a643 c644 a645 k663 (g97l2 v637 c640 a641 c642 a643 c644 a645 k663 m) v638 v639 a646
def g97l2M {α : Type} (m : Nat) : Int → Bool → (List Int) → Bool → (List Int) → Bool → (List Int) → (Int → (List Int) → Option α) → Int → Int → (List Int) → Option α :=
  fun v637 c640 a641 c642 a643 c644 a645 k663 v638 v639 a646 => g97l2 v637 c640 a641 c642 a643 c644 a645 k663 m v638 v639 a646
def g97l2D : LoopD := { n := 78, sl := [2, 3, 4, 6, 7, 8, 9], bl := [1002, 1003, 1004, 1006], tp := [(.vl (.sv (.ptr 1002 0))), (.vl (.sv (.ptr 1003 0))), (.vl (.sv (.ptr 1004 0))), (.vl (.sv (.ptr 1006 0))), (.vl (.sv (.int .i64))), (.vl (.sv (.int .u64))), (.vl (.sv (.int .i64)))], bp := [(true, [(.one .bool), (.seq (.int .u32) 6)]), (true, [(.one .bool), (.seq (.int .u32) 6)]), (true, [(.one .bool), (.seq (.int .u32) 6)]), (true, [(.seq (.int .u32) 12)])], xs := [(4, [2, 3, 4, 6, 7, 8], [1002, 1003, 1004, 1006])] }
def g97l2K {α : Type} (L : Int → Bool → (List Int) → Bool → (List Int) → Bool → (List Int) → (Int → (List Int) → Option α) → Int → Int → (List Int) → Option α) (ls : List Lf) (k : Ex → St → Option α) : Option α :=
  L (lf ls 0).int (lf ls 3).bool ((lf ls 4).lst (.int .u32)) (lf ls 5).bool ((lf ls 6).lst (.int .u32)) (lf ls 7).bool ((lf ls 8).lst (.int .u32))
    (fun y1 y8 => k .normal (mkSt 78 [2, 3, 4, 6, 7, 8] [(.vl (.sv (.ptr 1002 0))), (.vl (.sv (.ptr 1003 0))), (.vl (.sv (.ptr 1004 0))), (.vl (.sv (.ptr 1006 0))), (.vl (.sv (.int .i64 (lf ls 0).int))), (.vl (.sv (.int .u64 y1)))] [1002, 1003, 1004, 1006] [(true, [(.one (.bool (lf ls 3).bool)), (.seq (.int .u32) 6 ((lf ls 4).lst (.int .u32)))]), (true, [(.one (.bool (lf ls 5).bool)), (.seq (.int .u32) 6 ((lf ls 6).lst (.int .u32)))]), (true, [(.one (.bool (lf ls 7).bool)), (.seq (.int .u32) 6 ((lf ls 8).lst (.int .u32)))]), (true, [(.seq (.int .u32) 12 y8)])]))
    (lf ls 1).int (lf ls 2).int ((lf ls 9).lst (.int .u32))
def g97l0b {α : Type}  (L_g97l2 : {α : Type} → Int → Bool → (List Int) → Bool → (List Int) → Bool → (List Int) → (Int → (List Int) → Option α) → Int → Int → (List Int) → Option α) (c629 : Bool) (a630 : List Int) (c631 : Bool) (a632 : List Int) (c633 : Bool) (a634 : List Int) (k671 : (List Int) → Option α) (r672 : Int → (List Int) → Option α) (v628 : Int) (a635 : List Int) : Option α :=
  cond (decide (v628 < (6 : Int)))
   (
    L_g97l2 v628 c629 a630 c631 a632 c633 a634
      (fun x665 l666 =>
        let x667 : Int := IntKind.wrap .i64 (v628 + (6 : Int))
        if 0 ≤ x667 ∧ x667 < (12 : Nat) then
          if x667.toNat < 12 then
            r672 (IntKind.wrap .i64 (v628 + (1 : Int))) (List.set l666 (x667.toNat) (IntKind.wrap .u32 x665))
          else
            none
        else
          none)
      (0 : Int) (0 : Int) a635)
   (
    k671 a635)
def g97l0 {α : Type}  (L_g97l2 : {α : Type} → Int → Bool → (List Int) → Bool → (List Int) → Bool → (List Int) → (Int → (List Int) → Option α) → Int → Int → (List Int) → Option α) (c629 : Bool) (a630 : List Int) (c631 : Bool) (a632 : List Int) (c633 : Bool) (a634 : List Int) (k671 : (List Int) → Option α) : Nat → Int → (List Int) → Option α
  | 0 => fun _ _ => none
  | m + 1 => fun v628 a635 => g97l0b L_g97l2 c629 a630 c631 a632 c633 a634 k671 (g97l0 L_g97l2 c629 a630 c631 a632 c633 a634 k671 m) v628 a635
def g97l0M {α : Type} (m : Nat) : Bool → (List Int) → Bool → (List Int) → Bool → (List Int) → ((List Int) → Option α) → Int → (List Int) → Option α :=
  fun c629 a630 c631 a632 c633 a634 k671 v628 a635 => g97l0 (g97l2M m) c629 a630 c631 a632 c633 a634 k671 m v628 a635
def g97l0D : LoopD := { n := 78, sl := [2, 3, 4, 6, 7], bl := [1002, 1003, 1004, 1006], tp := [(.vl (.sv (.ptr 1002 0))), (.vl (.sv (.ptr 1003 0))), (.vl (.sv (.ptr 1004 0))), (.vl (.sv (.ptr 1006 0))), (.vl (.sv (.int .i64)))], bp := [(true, [(.one .bool), (.seq (.int .u32) 6)]), (true, [(.one .bool), (.seq (.int .u32) 6)]), (true, [(.one .bool), (.seq (.int .u32) 6)]), (true, [(.seq (.int .u32) 12)])], xs := [(2, [2, 3, 4, 6], [1002, 1003, 1004, 1006])] }
def g97l0K {α : Type} (L : Bool → (List Int) → Bool → (List Int) → Bool → (List Int) → ((List Int) → Option α) → Int → (List Int) → Option α) (ls : List Lf) (k : Ex → St → Option α) : Option α :=
  L (lf ls 1).bool ((lf ls 2).lst (.int .u32)) (lf ls 3).bool ((lf ls 4).lst (.int .u32)) (lf ls 5).bool ((lf ls 6).lst (.int .u32))
    (fun y6 => k .normal (mkSt 78 [2, 3, 4, 6] [(.vl (.sv (.ptr 1002 0))), (.vl (.sv (.ptr 1003 0))), (.vl (.sv (.ptr 1004 0))), (.vl (.sv (.ptr 1006 0)))] [1002, 1003, 1004, 1006] [(true, [(.one (.bool (lf ls 1).bool)), (.seq (.int .u32) 6 ((lf ls 2).lst (.int .u32)))]), (true, [(.one (.bool (lf ls 3).bool)), (.seq (.int .u32) 6 ((lf ls 4).lst (.int .u32)))]), (true, [(.one (.bool (lf ls 5).bool)), (.seq (.int .u32) 6 ((lf ls 6).lst (.int .u32)))]), (true, [(.seq (.int .u32) 12 y6)])]))
    (lf ls 0).int ((lf ls 7).lst (.int .u32))
def g97l4b {α : Type}   (c675 : Bool) (a676 : List Int) (c677 : Bool) (a678 : List Int) (c679 : Bool) (a680 : List Int) (a681 : List Int) (k690 : (List Int) → Option α) (k691 : (List Int) → Option α) (r692 : Int → (List Int) → Option α) (v674 : Int) (a682 : List Int) : Option α :=
  cond (decide (v674 < (6 : Int)))
   (
    if 0 ≤ v674 ∧ v674 < (12 : Nat) then
      if v674.toNat < 12 then
        if 0 ≤ v674 ∧ v674 < (6 : Nat) then
          if v674.toNat < 6 then
            let x686 : Int := IntKind.wrap .i64 (v674 + (6 : Int))
            if 0 ≤ x686 ∧ x686 < (12 : Nat) then
              if x686.toNat < 12 then
                cond ((List.getD a681 x686.toNat 0) != (0 : Int))
                 (
                  k690 [0, 0, 0, 0, 0, 0])
                 (
                  r692 (IntKind.wrap .i64 (v674 + (1 : Int))) (List.set a682 (v674.toNat) (List.getD a681 v674.toNat 0)))
              else
                none
            else
              none
          else
            none
        else
          none
      else
        none
    else
      none)
   (
    k691 a682)
def g97l4 {α : Type}   (c675 : Bool) (a676 : List Int) (c677 : Bool) (a678 : List Int) (c679 : Bool) (a680 : List Int) (a681 : List Int) (k690 : (List Int) → Option α) (k691 : (List Int) → Option α) : Nat → Int → (List Int) → Option α
  | 0 => fun _ _ => none
  | m + 1 => fun v674 a682 => g97l4b c675 a676 c677 a678 c679 a680 a681 k690 k691 (g97l4 c675 a676 c677 a678 c679 a680 a681 k690 k691 m) v674 a682
def g97l4M {α : Type} (m : Nat) : Bool → (List Int) → Bool → (List Int) → Bool → (List Int) → (List Int) → ((List Int) → Option α) → ((List Int) → Option α) → Int → (List Int) → Option α :=
  fun c675 a676 c677 a678 c679 a680 a681 k690 k691 v674 a682 => g97l4 c675 a676 c677 a678 c679 a680 a681 k690 k691 m v674 a682
def g97l4D : LoopD := { n := 78, sl := [2, 3, 4, 6, 11, 12], bl := [1002, 1003, 1004, 1006, 1011], tp := [(.vl (.sv (.ptr 1002 0))), (.vl (.sv (.ptr 1003 0))), (.vl (.sv (.ptr 1004 0))), (.vl (.sv (.ptr 1006 0))), (.vl (.sv (.ptr 1011 0))), (.vl (.sv (.int .i64)))], bp := [(true, [(.one .bool), (.seq (.int .u32) 6)]), (true, [(.one .bool), (.seq (.int .u32) 6)]), (true, [(.one .bool), (.seq (.int .u32) 6)]), (true, [(.seq (.int .u32) 12)]), (true, [(.seq (.int .u32) 6)])], xs := [(1, [4, 5], [1004]), (6, [2, 3, 4, 11], [1002, 1003, 1004, 1011])] }
def g97l4K {α : Type} (L : Bool → (List Int) → Bool → (List Int) → Bool → (List Int) → (List Int) → ((List Int) → Option α) → ((List Int) → Option α) → Int → (List Int) → Option α) (ls : List Lf) (k : Ex → St → Option α) : Option α :=
  L (lf ls 1).bool ((lf ls 2).lst (.int .u32)) (lf ls 3).bool ((lf ls 4).lst (.int .u32)) (lf ls 5).bool ((lf ls 6).lst (.int .u32)) ((lf ls 7).lst (.int .u32))
    (fun y2 => k .ret (mkSt 78 [4, 5] [(.vl (.sv (.ptr 1004 0))), (.vl (.sv (.int .i64 (3 : Int))))] [1004] [(true, [(.one (.bool false)), (.seq (.int .u32) 6 y2)])]))
    (fun y6 => k .normal (mkSt 78 [2, 3, 4, 11] [(.vl (.sv (.ptr 1002 0))), (.vl (.sv (.ptr 1003 0))), (.vl (.sv (.ptr 1004 0))), (.vl (.sv (.ptr 1011 0)))] [1002, 1003, 1004, 1011] [(true, [(.one (.bool (lf ls 1).bool)), (.seq (.int .u32) 6 ((lf ls 2).lst (.int .u32)))]), (true, [(.one (.bool (lf ls 3).bool)), (.seq (.int .u32) 6 ((lf ls 4).lst (.int .u32)))]), (true, [(.one (.bool (lf ls 5).bool)), (.seq (.int .u32) 6 ((lf ls 6).lst (.int .u32)))]), (true, [(.seq (.int .u32) 6 y6)])]))
    (lf ls 0).int ((lf ls 8).lst (.int .u32))
def g97b {α : Type} (G_g71 : {α : Type} → Bool → (List Int) → (Bool → Option α) → Option α) (L_g97l2 : {α : Type} → Int → Bool → (List Int) → Bool → (List Int) → Bool → (List Int) → (Int → (List Int) → Option α) → Int → Int → (List Int) → Option α) (L_g97l0 : {α : Type} → Bool → (List Int) → Bool → (List Int) → Bool → (List Int) → ((List Int) → Option α) → Int → (List Int) → Option α) (L_g97l4 : {α : Type} → Bool → (List Int) → Bool → (List Int) → Bool → (List Int) → (List Int) → ((List Int) → Option α) → ((List Int) → Option α) → Int → (List Int) → Option α) (q624 : Bool) (u625 : List Int) (q626 : Bool) (u627 : List Int) (k697 : Bool → (List Int) → Int → Option α) : Option α :=
  L_g97l0 q624 u625 q626 u627 false [0, 0, 0, 0, 0, 0]
    (fun l673 =>
      L_g97l4 q624 u625 q626 u627 false [0, 0, 0, 0, 0, 0] l673
        (fun l693 =>
          k697 false l693 (3 : Int))
        (fun l694 =>
          G_g71 (!(q624 == q626)) l694
            (fun b696 =>
              k697 b696 l694 (0 : Int)))
        (0 : Int) [0, 0, 0, 0, 0, 0])
    (0 : Int) [0, 0, 0, 0, 0, 0, 0, 0, 0, 0, 0, 0]
def g97 {α : Type} (m : Nat) : Bool → (List Int) → Bool → (List Int) → (Bool → (List Int) → Int → Option α) → Option α :=
  g97b (g71 m) (g97l2M m) (g97l0M m) (g97l4M m)
def g97tp : List TP := [(.vl (.agg [(.one .bool), (.seq (.int .u32) 6)])), (.vl (.agg [(.one .bool), (.seq (.int .u32) 6)]))]
def g97bp : List BP := []
def g97K {α : Type} (G : Bool → (List Int) → Bool → (List Int) → (Bool → (List Int) → Int → Option α) → Option α) (ls : List Lf) (k : TV → List (List Seg) → List (List Seg) → Option α) : Option α :=
  G (lf ls 0).bool ((lf ls 1).lst (.int .u32)) (lf ls 2).bool ((lf ls 3).lst (.int .u32))
    (fun y0 y1 y2 => k (.tup [(.agg [(.one (.bool y0)), (.seq (.int .u32) 6 y1)]), (.sv (.int .i64 y2))]) [] [])
def g97hd (G_g71 : {α : Type} → Bool → (List Int) → (Bool → Option α) → Option α) (L_g97l2 : {α : Type} → Int → Bool → (List Int) → Bool → (List Int) → Bool → (List Int) → (Int → (List Int) → Option α) → Int → Int → (List Int) → Option α) (L_g97l0 : {α : Type} → Bool → (List Int) → Bool → (List Int) → Bool → (List Int) → ((List Int) → Option α) → Int → (List Int) → Option α) (L_g97l4 : {α : Type} → Bool → (List Int) → Bool → (List Int) → Bool → (List Int) → (List Int) → ((List Int) → Option α) → ((List Int) → Option α) → Int → (List Int) → Option α) : Hd where
  call := fun f args Bs k => cond (Nat.beq f 71) (rowK g71tp g71bp (g71K G_g71) args Bs k) (none)
  loop := fun id st k => cond (Nat.beq id 2) (loopH g97l2D (g97l2K L_g97l2) st k) (cond (Nat.beq id 0) (loopH g97l0D (g97l0K L_g97l0) st k) (cond (Nat.beq id 4) (loopH g97l4D (g97l4K L_g97l4) st k) (none)))
  ro := fun f => []
def g97h (m : Nat) : Hd := g97hd (g71 m) (g97l2M m) (g97l0M m) (g97l4M m)
theorem g97l2Step (G_g71 : {α : Type} → Bool → (List Int) → (Bool → Option α) → Option α) (L_g97l2 : {α : Type} → Int → Bool → (List Int) → Bool → (List Int) → Bool → (List Int) → (Int → (List Int) → Option α) → Int → Int → (List Int) → Option α) (L_g97l0 : {α : Type} → Bool → (List Int) → Bool → (List Int) → Bool → (List Int) → ((List Int) → Option α) → Int → (List Int) → Option α) (L_g97l4 : {α : Type} → Bool → (List Int) → Bool → (List Int) → Bool → (List Int) → (List Int) → ((List Int) → Option α) → ((List Int) → Option α) → Int → (List Int) → Option α) {α : Type} (L : Int → Bool → (List Int) → Bool → (List Int) → Bool → (List Int) → (Int → (List Int) → Option α) → Int → Int → (List Int) → Option α) (ls : List Lf) (k : Ex → St → Option α) :
    g97l2K (fun v637 c640 a641 c642 a643 c644 a645 k663 v638 v639 a646 => g97l2b v637 c640 a641 c642 a643 c644 a645 k663 (L v637 c640 a641 c642 a643 c644 a645 k663) v638 v639 a646) ls k = ev tab (g97hd G_g71 L_g97l2 L_g97l0 L_g97l4) (bodyAt Go.Proofs.Try.f97 2) (atHead g97l2D ls) (loopK g97l2D 2 (loopH g97l2D (g97l2K L)) k) := by kernel_rfl
theorem g97l0Step (G_g71 : {α : Type} → Bool → (List Int) → (Bool → Option α) → Option α) (L_g97l2 : {α : Type} → Int → Bool → (List Int) → Bool → (List Int) → Bool → (List Int) → (Int → (List Int) → Option α) → Int → Int → (List Int) → Option α) (L_g97l0 : {α : Type} → Bool → (List Int) → Bool → (List Int) → Bool → (List Int) → ((List Int) → Option α) → Int → (List Int) → Option α) (L_g97l4 : {α : Type} → Bool → (List Int) → Bool → (List Int) → Bool → (List Int) → (List Int) → ((List Int) → Option α) → ((List Int) → Option α) → Int → (List Int) → Option α) {α : Type} (L : Bool → (List Int) → Bool → (List Int) → Bool → (List Int) → ((List Int) → Option α) → Int → (List Int) → Option α) (ls : List Lf) (k : Ex → St → Option α) :
    g97l0K (fun c629 a630 c631 a632 c633 a634 k671 v628 a635 => g97l0b L_g97l2 c629 a630 c631 a632 c633 a634 k671 (L c629 a630 c631 a632 c633 a634 k671) v628 a635) ls k = ev tab (g97hd G_g71 L_g97l2 L_g97l0 L_g97l4) (bodyAt Go.Proofs.Try.f97 0) (atHead g97l0D ls) (loopK g97l0D 0 (loopH g97l0D (g97l0K L)) k) := by kernel_rfl
theorem g97l4Step (G_g71 : {α : Type} → Bool → (List Int) → (Bool → Option α) → Option α) (L_g97l2 : {α : Type} → Int → Bool → (List Int) → Bool → (List Int) → Bool → (List Int) → (Int → (List Int) → Option α) → Int → Int → (List Int) → Option α) (L_g97l0 : {α : Type} → Bool → (List Int) → Bool → (List Int) → Bool → (List Int) → ((List Int) → Option α) → Int → (List Int) → Option α) (L_g97l4 : {α : Type} → Bool → (List Int) → Bool → (List Int) → Bool → (List Int) → (List Int) → ((List Int) → Option α) → ((List Int) → Option α) → Int → (List Int) → Option α) {α : Type} (L : Bool → (List Int) → Bool → (List Int) → Bool → (List Int) → (List Int) → ((List Int) → Option α) → ((List Int) → Option α) → Int → (List Int) → Option α) (ls : List Lf) (k : Ex → St → Option α) :
    g97l4K (fun c675 a676 c677 a678 c679 a680 a681 k690 k691 v674 a682 => g97l4b c675 a676 c677 a678 c679 a680 a681 k690 k691 (L c675 a676 c677 a678 c679 a680 a681 k690 k691) v674 a682) ls k = ev tab (g97hd G_g71 L_g97l2 L_g97l0 L_g97l4) (bodyAt Go.Proofs.Try.f97 4) (atHead g97l4D ls) (loopK g97l4D 4 (loopH g97l4D (g97l4K L)) k) := by kernel_rfl
theorem g97Main (G_g71 : {α : Type} → Bool → (List Int) → (Bool → Option α) → Option α) (L_g97l2 : {α : Type} → Int → Bool → (List Int) → Bool → (List Int) → Bool → (List Int) → (Int → (List Int) → Option α) → Int → Int → (List Int) → Option α) (L_g97l0 : {α : Type} → Bool → (List Int) → Bool → (List Int) → Bool → (List Int) → ((List Int) → Option α) → Int → (List Int) → Option α) (L_g97l4 : {α : Type} → Bool → (List Int) → Bool → (List Int) → Bool → (List Int) → (List Int) → ((List Int) → Option α) → ((List Int) → Option α) → Int → (List Int) → Option α) {α : Type} (ls : List Lf) (k : TV → List (List Seg) → List (List Seg) → Option α) :
    g97K (g97b G_g71 L_g97l2 L_g97l0 L_g97l4) ls k = evFun tab (g97hd G_g71 L_g97l2 L_g97l0 L_g97l4) Go.Proofs.Try.f97 (fillT g97tp ls).1 (fillB g97bp (fillT g97tp ls).2).1 k := by kernel_rfl
theorem g97Calls (m : Nat) : (g97h m).CallsOk Go.Proofs.Try.prog := (cok_cons (g71Ok m) cok_nil)
theorem g97l2Ok (m : Nat) (α : Type) (st : St) (k : Ex → St → Option α) (r : α) (h : (g97h m).loop 2 st k = some r) :
    ∃ e st', k e st' = some r ∧ CodeS Go.Proofs.Try.prog (.block 2 (.loop (bodyAt Go.Proofs.Try.f97 2))) st e st' :=
  loop_ok (tab := tab) (h := g97h m) (F := fun n ls k => g97l2K (fun v637 c640 a641 c642 a643 c644 a645 k663 v638 v639 a646 => g97l2 v637 c640 a641 c642 a643 c644 a645 k663 n v638 v639 a646) ls k) tabOk (g97Calls m) mixed (loopsOk_of _ (fun p hp => by rw [show loopsOf (bodyAt Go.Proofs.Try.f97 2) = [] by kernel_rfl] at hp; cases hp))
    (fun _ _ => rfl) (fun n ls k => g97l2Step (g71 m) (g97l2M m) (g97l0M m) (g97l4M m) (fun v637 c640 a641 c642 a643 c644 a645 k663 => g97l2 v637 c640 a641 c642 a643 c644 a645 k663 n) ls k) (n := m) h
theorem g97l0Ok (m : Nat) (α : Type) (st : St) (k : Ex → St → Option α) (r : α) (h : (g97h m).loop 0 st k = some r) :
    ∃ e st', k e st' = some r ∧ CodeS Go.Proofs.Try.prog (.block 0 (.loop (bodyAt Go.Proofs.Try.f97 0))) st e st' :=
  loop_ok (tab := tab) (h := g97h m) (F := fun n ls k => g97l0K (fun c629 a630 c631 a632 c633 a634 k671 v628 a635 => g97l0 (g97l2M m) c629 a630 c631 a632 c633 a634 k671 n v628 a635) ls k) tabOk (g97Calls m) mixed (loopsOk_of _ (fun p hp => by
    rw [show loopsOf (bodyAt Go.Proofs.Try.f97 0) = [(2, bodyAt Go.Proofs.Try.f97 2)] by kernel_rfl] at hp
    simp only [List.mem_cons, List.not_mem_nil, or_false] at hp
    rcases hp with rfl
    exact g97l2Ok m))
    (fun _ _ => rfl) (fun n ls k => g97l0Step (g71 m) (g97l2M m) (g97l0M m) (g97l4M m) (fun c629 a630 c631 a632 c633 a634 k671 => g97l0 (g97l2M m) c629 a630 c631 a632 c633 a634 k671 n) ls k) (n := m) h
theorem g97l4Ok (m : Nat) (α : Type) (st : St) (k : Ex → St → Option α) (r : α) (h : (g97h m).loop 4 st k = some r) :
    ∃ e st', k e st' = some r ∧ CodeS Go.Proofs.Try.prog (.block 4 (.loop (bodyAt Go.Proofs.Try.f97 4))) st e st' :=
  loop_ok (tab := tab) (h := g97h m) (F := fun n ls k => g97l4K (fun c675 a676 c677 a678 c679 a680 a681 k690 k691 v674 a682 => g97l4 c675 a676 c677 a678 c679 a680 a681 k690 k691 n v674 a682) ls k) tabOk (g97Calls m) mixed (loopsOk_of _ (fun p hp => by rw [show loopsOf (bodyAt Go.Proofs.Try.f97 4) = [] by kernel_rfl] at hp; cases hp))
    (fun _ _ => rfl) (fun n ls k => g97l4Step (g71 m) (g97l2M m) (g97l0M m) (g97l4M m) (fun c675 a676 c677 a678 c679 a680 a681 k690 k691 => g97l4 c675 a676 c677 a678 c679 a680 a681 k690 k691 n) ls k) (n := m) h
theorem g97Fn (m : Nat) : FnOk Go.Proofs.Try.prog 97 g97tp g97bp (fun {α} => g97K (g97 (α := α) m)) :=
  fn_ok (tab := tab) (h := g97h m) (fn := Go.Proofs.Try.f97) (F := fun {α} => g97K (g97 (α := α) m)) tabOk (g97Calls m) mixed (by kernel_rfl) (by kernel_rfl) (fun c hc => by
    rw [bodyOf_some hc]
    exact loopsOk_of _ (fun p hp => by
    rw [show loopsOf (bodyOf Go.Proofs.Try.f97) = [(0, bodyAt Go.Proofs.Try.f97 0), (4, bodyAt Go.Proofs.Try.f97 4)] by kernel_rfl] at hp
    simp only [List.mem_cons, List.not_mem_nil, or_false] at hp
    rcases hp with rfl | rfl
    · exact g97l0Ok m
    · exact g97l4Ok m))
    (fun α ls k => g97Main (g71 m) (g97l2M m) (g97l0M m) (g97l4M m) ls k)
theorem g97Ok (m : Nat) : RowOk Go.Proofs.Try.prog 97 (fun {α} => rowK g97tp g97bp (g97K (g97 (α := α) m))) := row_of (g97Fn m)

/-! ### g55: spec.MulWides -/
def g55b {α : Type} (G_g64 : {α : Type} → Bool → (List Int) → (Bool → Option α) → Option α) (G_g97 : {α : Type} → Bool → (List Int) → Bool → (List Int) → (Bool → (List Int) → Int → Option α) → Option α)  (q616 : Bool) (u617 : List Int) (q618 : Bool) (u619 : List Int) (k701 : Bool → (List Int) → Int → Option α) : Option α :=
  G_g64 q616 u617
    (fun b620 =>
      cond (!b620)
       (
        k701 false [0, 0, 0, 0, 0, 0] (1 : Int))
       (
        G_g64 q618 u619
          (fun b622 =>
            cond (!b622)
             (
              k701 false [0, 0, 0, 0, 0, 0] (1 : Int))
             (
              G_g97 q616 u617 q618 u619
                (fun b698 l699 x700 =>
                  k701 b698 l699 x700)))))
def g55 {α : Type} (m : Nat) : Bool → (List Int) → Bool → (List Int) → (Bool → (List Int) → Int → Option α) → Option α :=
  g55b (g64 m) (g97 m)
def g55tp : List TP := [(.vl (.agg [(.one .bool), (.seq (.int .u32) 6)])), (.vl (.agg [(.one .bool), (.seq (.int .u32) 6)]))]
def g55bp : List BP := []
def g55K {α : Type} (G : Bool → (List Int) → Bool → (List Int) → (Bool → (List Int) → Int → Option α) → Option α) (ls : List Lf) (k : TV → List (List Seg) → List (List Seg) → Option α) : Option α :=
  G (lf ls 0).bool ((lf ls 1).lst (.int .u32)) (lf ls 2).bool ((lf ls 3).lst (.int .u32))
    (fun y0 y1 y2 => k (.tup [(.agg [(.one (.bool y0)), (.seq (.int .u32) 6 y1)]), (.sv (.int .i64 y2))]) [] [])
def g55hd (G_g64 : {α : Type} → Bool → (List Int) → (Bool → Option α) → Option α) (G_g97 : {α : Type} → Bool → (List Int) → Bool → (List Int) → (Bool → (List Int) → Int → Option α) → Option α)  : Hd where
  call := fun f args Bs k => cond (Nat.beq f 64) (rowK g64tp g64bp (g64K G_g64) args Bs k) (cond (Nat.beq f 97) (rowK g97tp g97bp (g97K G_g97) args Bs k) (none))
  loop := fun id st k => none
  ro := fun f => cond (Nat.beq f 64) [0] ([])
def g55h (m : Nat) : Hd := g55hd (g64 m) (g97 m)
theorem g55Main (G_g64 : {α : Type} → Bool → (List Int) → (Bool → Option α) → Option α) (G_g97 : {α : Type} → Bool → (List Int) → Bool → (List Int) → (Bool → (List Int) → Int → Option α) → Option α)  {α : Type} (ls : List Lf) (k : TV → List (List Seg) → List (List Seg) → Option α) :
    g55K (g55b G_g64 G_g97) ls k = evFun tab (g55hd G_g64 G_g97) Go.Proofs.Try.f55 (fillT g55tp ls).1 (fillB g55bp (fillT g55tp ls).2).1 k := by kernel_rfl
theorem g55Calls (m : Nat) : (g55h m).CallsOk Go.Proofs.Try.prog := (cok_cons (g64Ok m) (cok_cons (g97Ok m) cok_nil))
theorem g55Fn (m : Nat) : FnOk Go.Proofs.Try.prog 55 g55tp g55bp (fun {α} => g55K (g55 (α := α) m)) :=
  fn_ok (tab := tab) (h := g55h m) (fn := Go.Proofs.Try.f55) (F := fun {α} => g55K (g55 (α := α) m)) tabOk (g55Calls m) mixed (by kernel_rfl) (by kernel_rfl) (fun c hc => by
    rw [bodyOf_some hc]
    exact loopsOk_of _ (fun p hp => by rw [show loopsOf (bodyOf Go.Proofs.Try.f55) = [] by kernel_rfl] at hp; cases hp))
    (fun α ls k => g55Main (g64 m) (g97 m) ls k)
theorem g55Ok (m : Nat) : RowOk Go.Proofs.Try.prog 55 (fun {α} => rowK g55tp g55bp (g55K (g55 (α := α) m))) := row_of (g55Fn m)

/-! ### g114: (impl.size).times -/
def g114l2b {α : Type}   (v729 : Int) (v730 : Int) (a732 : List Int) (v733 : Int) (a734 : List Int) (a736 : List Int) (a737 : List Int) (k754 : Int → (List Int) → Option α) (r755 : Int → Int → (List Int) → Option α) (v731 : Int) (v735 : Int) (a738 : List Int) : Option α :=
  cond (decide (v735 < (6 : Int)))
   (
    if 0 ≤ v735 ∧ v735 < (6 : Nat) then
      let x744 : Int := IntKind.wrap .i64 (v729 + v735)
      if 0 ≤ x744 ∧ x744 < (12 : Nat) then
        if x744.toNat < 12 then
          let x748 : Int := IntKind.wrap .u64 (v731 + (IntKind.wrap .u64 ((IntKind.wrap .u64 ((IntKind.wrap .u64 v730) * (IntKind.wrap .u64 (List.getD a734 v735.toNat 0)))) + (IntKind.wrap .u64 (List.getD a738 x744.toNat 0)))))
          let x749 : Int := IntKind.wrap .i64 (v729 + v735)
          if 0 ≤ x749 ∧ x749 < (12 : Nat) then
            if x749.toNat < 12 then
              r755 (Int.fdiv x748 (2 ^ 32)) (IntKind.wrap .i64 (v735 + (1 : Int))) (List.set a738 (x749.toNat) (IntKind.wrap .u32 x748))
            else
              none
          else
            none
        else
          none
      else
        none
    else
      none)
   (
    k754 v731 a738)
def g114l2 {α : Type}   (v729 : Int) (v730 : Int) (a732 : List Int) (v733 : Int) (a734 : List Int) (a736 : List Int) (a737 : List Int) (k754 : Int → (List Int) → Option α) : Nat → Int → Int → (List Int) → Option α
  | 0 => fun _ _ _ => none
  | m + 1 => fun v731 v735 a738 => g114l2b v729 v730 a732 v733 a734 a736 a737 k754 (g114l2 v729 v730 a732 v733 a734 a736 a737 k754 m) v731 v735 a738
def g114l2M {α : Type} (m : Nat) : Int → Int → (List Int) → Int → (List Int) → (List Int) → (List Int) → (Int → (List Int) → Option α) → Int → Int → (List Int) → Option α :=
  fun v729 v730 a732 v733 a734 a736 a737 k754 v731 v735 a738 => g114l2 v729 v730 a732 v733 a734 a736 a737 k754 m v731 v735 a738
def g114l2D : LoopD := { n := 66, sl := [3, 4, 6, 7, 8, 9, 14, 15, 19, 20], bl := [1003, 1004, 1006], tp := [(.vl (.sv (.ptr 1003 0))), (.vl (.sv (.ptr 1004 0))), (.vl (.sv (.ptr 1006 0))), (.vl (.sv (.int .i64))), (.vl (.sv (.int .u32))), (.vl (.sv (.int .u64))), (.vl (.agg [(.seq (.int .u32) 6)])), (.vl (.sv (.int .i64))), (.vl (.agg [(.seq (.int .u32) 6)])), (.vl (.sv (.int .i64)))], bp := [(true, [(.seq (.int .u32) 6)]), (true, [(.seq (.int .u32) 6)]), (true, [(.seq (.int .u32) 12)])], xs := [(4, [3, 4, 6, 7, 9, 14, 15], [1003, 1004, 1006])] }
def g114l2K {α : Type} (L : Int → Int → (List Int) → Int → (List Int) → (List Int) → (List Int) → (Int → (List Int) → Option α) → Int → Int → (List Int) → Option α) (ls : List Lf) (k : Ex → St → Option α) : Option α :=
  L (lf ls 0).int (lf ls 1).int ((lf ls 3).lst (.int .u32)) (lf ls 4).int ((lf ls 5).lst (.int .u32)) ((lf ls 7).lst (.int .u32)) ((lf ls 8).lst (.int .u32))
    (fun y1 y6 => k .normal (mkSt 66 [3, 4, 6, 7, 9, 14, 15] [(.vl (.sv (.ptr 1003 0))), (.vl (.sv (.ptr 1004 0))), (.vl (.sv (.ptr 1006 0))), (.vl (.sv (.int .i64 (lf ls 0).int))), (.vl (.sv (.int .u64 y1))), (.vl (.agg [(.seq (.int .u32) 6 ((lf ls 3).lst (.int .u32)))])), (.vl (.sv (.int .i64 (lf ls 4).int)))] [1003, 1004, 1006] [(true, [(.seq (.int .u32) 6 ((lf ls 7).lst (.int .u32)))]), (true, [(.seq (.int .u32) 6 ((lf ls 8).lst (.int .u32)))]), (true, [(.seq (.int .u32) 12 y6)])]))
    (lf ls 2).int (lf ls 6).int ((lf ls 9).lst (.int .u32))
def g114l0b {α : Type}  (L_g114l2 : {α : Type} → Int → Int → (List Int) → Int → (List Int) → (List Int) → (List Int) → (Int → (List Int) → Option α) → Int → Int → (List Int) → Option α) (a722 : List Int) (a724 : List Int) (a725 : List Int) (k762 : (List Int) → Option α) (r763 : Int → (List Int) → Option α) (v723 : Int) (a726 : List Int) : Option α :=
  cond (decide (v723 < (6 : Int)))
   (
    if 0 ≤ v723 ∧ v723 < (6 : Nat) then
      L_g114l2 v723 (List.getD a722 v723.toNat 0) a722 v723 a724 a724 a725
        (fun x756 l757 =>
          let x758 : Int := IntKind.wrap .i64 (v723 + (6 : Int))
          if 0 ≤ x758 ∧ x758 < (12 : Nat) then
            if x758.toNat < 12 then
              r763 (IntKind.wrap .i64 (v723 + (1 : Int))) (List.set l757 (x758.toNat) (IntKind.wrap .u32 x756))
            else
              none
          else
            none)
        (0 : Int) (0 : Int) a726
    else
      none)
   (
    k762 a726)
def g114l0 {α : Type}  (L_g114l2 : {α : Type} → Int → Int → (List Int) → Int → (List Int) → (List Int) → (List Int) → (Int → (List Int) → Option α) → Int → Int → (List Int) → Option α) (a722 : List Int) (a724 : List Int) (a725 : List Int) (k762 : (List Int) → Option α) : Nat → Int → (List Int) → Option α
  | 0 => fun _ _ => none
  | m + 1 => fun v723 a726 => g114l0b L_g114l2 a722 a724 a725 k762 (g114l0 L_g114l2 a722 a724 a725 k762 m) v723 a726
def g114l0M {α : Type} (m : Nat) : (List Int) → (List Int) → (List Int) → ((List Int) → Option α) → Int → (List Int) → Option α :=
  fun a722 a724 a725 k762 v723 a726 => g114l0 (g114l2M m) a722 a724 a725 k762 m v723 a726
def g114l0D : LoopD := { n := 66, sl := [3, 4, 6, 14, 15], bl := [1003, 1004, 1006], tp := [(.vl (.sv (.ptr 1003 0))), (.vl (.sv (.ptr 1004 0))), (.vl (.sv (.ptr 1006 0))), (.vl (.agg [(.seq (.int .u32) 6)])), (.vl (.sv (.int .i64)))], bp := [(true, [(.seq (.int .u32) 6)]), (true, [(.seq (.int .u32) 6)]), (true, [(.seq (.int .u32) 12)])], xs := [(2, [4, 6], [1004, 1006])] }
def g114l0K {α : Type} (L : (List Int) → (List Int) → (List Int) → ((List Int) → Option α) → Int → (List Int) → Option α) (ls : List Lf) (k : Ex → St → Option α) : Option α :=
  L ((lf ls 0).lst (.int .u32)) ((lf ls 2).lst (.int .u32)) ((lf ls 3).lst (.int .u32))
    (fun y1 => k .normal (mkSt 66 [4, 6] [(.vl (.sv (.ptr 1004 0))), (.vl (.sv (.ptr 1006 0)))] [1004, 1006] [(true, [(.seq (.int .u32) 6 ((lf ls 3).lst (.int .u32)))]), (true, [(.seq (.int .u32) 12 y1)])]))
    (lf ls 1).int ((lf ls 4).lst (.int .u32))
def g114l4b {α : Type}   (m765 : Nat) (m766 : Nat) (m767 : Nat) (v768 : Int) (a770 : List Int) (a771 : List Int) (k776 : (List Int) → Option α) (k777 : Option α) (r778 : Int → Option α) (v769 : Int) : Option α :=
  cond (decide (v769 < v768))
   (
    if 0 ≤ v769 ∧ v769 < (m766 : Nat) then
      if (m765 + v769.toNat) < 12 then
        cond ((List.getD a771 (m765 + v769.toNat) 0) != (0 : Int))
         (
          k776 [0, 0, 0, 0, 0, 0])
         (
          r778 (IntKind.wrap .i64 (v769 + (1 : Int))))
      else
        none
    else
      none)
   (
    k777)
def g114l4 {α : Type}   (m765 : Nat) (m766 : Nat) (m767 : Nat) (v768 : Int) (a770 : List Int) (a771 : List Int) (k776 : (List Int) → Option α) (k777 : Option α) : Nat → Int → Option α
  | 0 => fun _ => none
  | m + 1 => fun v769 => g114l4b m765 m766 m767 v768 a770 a771 k776 k777 (g114l4 m765 m766 m767 v768 a770 a771 k776 k777 m) v769
def g114l4M {α : Type} (m : Nat) : Nat → Nat → Nat → Int → (List Int) → (List Int) → ((List Int) → Option α) → (Option α) → Int → Option α :=
  fun m765 m766 m767 v768 a770 a771 k776 k777 v769 => g114l4 m765 m766 m767 v768 a770 a771 k776 k777 m v769
def g114l4D : LoopD := { n := 66, sl := [4, 6, 53, 54, 55], bl := [1004, 1006], tp := [(.vl (.sv (.ptr 1004 0))), (.vl (.sv (.ptr 1006 0))), (.vl (.sv (.slc 1006 0 1))), (.vl (.sv (.int .i64))), (.vl (.sv (.int .i64)))], bp := [(true, [(.seq (.int .u32) 6)]), (true, [(.seq (.int .u32) 12)])], xs := [(1, [4, 5], [1004]), (6, [4, 6], [1004, 1006])] }
def g114l4K {α : Type} (L : Nat → Nat → Nat → Int → (List Int) → (List Int) → ((List Int) → Option α) → (Option α) → Int → Option α) (ls : List Lf) (k : Ex → St → Option α) : Option α :=
  L (lf ls 0).nat (lf ls 1).nat (lf ls 2).nat (lf ls 3).int ((lf ls 5).lst (.int .u32)) ((lf ls 6).lst (.int .u32))
    (fun y1 => k .ret (mkSt 66 [4, 5] [(.vl (.sv (.ptr 1004 0))), (.vl (.sv (.bool true)))] [1004] [(true, [(.seq (.int .u32) 6 y1)])]))
    (k .normal (mkSt 66 [4, 6] [(.vl (.sv (.ptr 1004 0))), (.vl (.sv (.ptr 1006 0)))] [1004, 1006] [(true, [(.seq (.int .u32) 6 ((lf ls 5).lst (.int .u32)))]), (true, [(.seq (.int .u32) 12 ((lf ls 6).lst (.int .u32)))])]))
    (lf ls 4).int
def g114b {α : Type}  (L_g114l2 : {α : Type} → Int → Int → (List Int) → Int → (List Int) → (List Int) → (List Int) → (Int → (List Int) → Option α) → Int → Int → (List Int) → Option α) (L_g114l0 : {α : Type} → (List Int) → (List Int) → (List Int) → ((List Int) → Option α) → Int → (List Int) → Option α) (L_g114l4 : {α : Type} → Nat → Nat → Nat → Int → (List Int) → (List Int) → ((List Int) → Option α) → (Option α) → Int → Option α) (u720 : List Int) (u721 : List Int) (k781 : (List Int) → Bool → Option α) : Option α :=
  L_g114l0 u720 u721 [0, 0, 0, 0, 0, 0]
    (fun l764 =>
      L_g114l4 6 6 6 (6 : Int) [0, 0, 0, 0, 0, 0] l764
        (fun l779 =>
          k781 l779 true)
        (
          k781 (List.take 6 (List.drop 0 l764)) false)
        (0 : Int))
    (0 : Int) [0, 0, 0, 0, 0, 0, 0, 0, 0, 0, 0, 0]
def g114 {α : Type} (m : Nat) : (List Int) → (List Int) → ((List Int) → Bool → Option α) → Option α :=
  g114b (g114l2M m) (g114l0M m) (g114l4M m)
def g114tp : List TP := [(.vl (.agg [(.seq (.int .u32) 6)])), (.vl (.agg [(.seq (.int .u32) 6)]))]
def g114bp : List BP := []
def g114K {α : Type} (G : (List Int) → (List Int) → ((List Int) → Bool → Option α) → Option α) (ls : List Lf) (k : TV → List (List Seg) → List (List Seg) → Option α) : Option α :=
  G ((lf ls 0).lst (.int .u32)) ((lf ls 1).lst (.int .u32))
    (fun y0 y1 => k (.tup [(.agg [(.seq (.int .u32) 6 y0)]), (.sv (.bool y1))]) [] [])
def g114hd  (L_g114l2 : {α : Type} → Int → Int → (List Int) → Int → (List Int) → (List Int) → (List Int) → (Int → (List Int) → Option α) → Int → Int → (List Int) → Option α) (L_g114l0 : {α : Type} → (List Int) → (List Int) → (List Int) → ((List Int) → Option α) → Int → (List Int) → Option α) (L_g114l4 : {α : Type} → Nat → Nat → Nat → Int → (List Int) → (List Int) → ((List Int) → Option α) → (Option α) → Int → Option α) : Hd where
  call := fun f args Bs k => none
  loop := fun id st k => cond (Nat.beq id 2) (loopH g114l2D (g114l2K L_g114l2) st k) (cond (Nat.beq id 0) (loopH g114l0D (g114l0K L_g114l0) st k) (cond (Nat.beq id 4) (loopH g114l4D (g114l4K L_g114l4) st k) (none)))
  ro := fun f => []
def g114h (m : Nat) : Hd := g114hd (g114l2M m) (g114l0M m) (g114l4M m)
theorem g114l2Step  (L_g114l2 : {α : Type} → Int → Int → (List Int) → Int → (List Int) → (List Int) → (List Int) → (Int → (List Int) → Option α) → Int → Int → (List Int) → Option α) (L_g114l0 : {α : Type} → (List Int) → (List Int) → (List Int) → ((List Int) → Option α) → Int → (List Int) → Option α) (L_g114l4 : {α : Type} → Nat → Nat → Nat → Int → (List Int) → (List Int) → ((List Int) → Option α) → (Option α) → Int → Option α) {α : Type} (L : Int → Int → (List Int) → Int → (List Int) → (List Int) → (List Int) → (Int → (List Int) → Option α) → Int → Int → (List Int) → Option α) (ls : List Lf) (k : Ex → St → Option α) :
    g114l2K (fun v729 v730 a732 v733 a734 a736 a737 k754 v731 v735 a738 => g114l2b v729 v730 a732 v733 a734 a736 a737 k754 (L v729 v730 a732 v733 a734 a736 a737 k754) v731 v735 a738) ls k = ev tab (g114hd L_g114l2 L_g114l0 L_g114l4) (bodyAt Go.Proofs.Try.f114 2) (atHead g114l2D ls) (loopK g114l2D 2 (loopH g114l2D (g114l2K L)) k) := by kernel_rfl
theorem g114l0Step  (L_g114l2 : {α : Type} → Int → Int → (List Int) → Int → (List Int) → (List Int) → (List Int) → (Int → (List Int) → Option α) → Int → Int → (List Int) → Option α) (L_g114l0 : {α : Type} → (List Int) → (List Int) → (List Int) → ((List Int) → Option α) → Int → (List Int) → Option α) (L_g114l4 : {α : Type} → Nat → Nat → Nat → Int → (List Int) → (List Int) → ((List Int) → Option α) → (Option α) → Int → Option α) {α : Type} (L : (List Int) → (List Int) → (List Int) → ((List Int) → Option α) → Int → (List Int) → Option α) (ls : List Lf) (k : Ex → St → Option α) :
    g114l0K (fun a722 a724 a725 k762 v723 a726 => g114l0b L_g114l2 a722 a724 a725 k762 (L a722 a724 a725 k762) v723 a726) ls k = ev tab (g114hd L_g114l2 L_g114l0 L_g114l4) (bodyAt Go.Proofs.Try.f114 0) (atHead g114l0D ls) (loopK g114l0D 0 (loopH g114l0D (g114l0K L)) k) := by kernel_rfl
theorem g114l4Step  (L_g114l2 : {α : Type} → Int → Int → (List Int) → Int → (List Int) → (List Int) → (List Int) → (Int → (List Int) → Option α) → Int → Int → (List Int) → Option α) (L_g114l0 : {α : Type} → (List Int) → (List Int) → (List Int) → ((List Int) → Option α) → Int → (List Int) → Option α) (L_g114l4 : {α : Type} → Nat → Nat → Nat → Int → (List Int) → (List Int) → ((List Int) → Option α) → (Option α) → Int → Option α) {α : Type} (L : Nat → Nat → Nat → Int → (List Int) → (List Int) → ((List Int) → Option α) → (Option α) → Int → Option α) (ls : List Lf) (k : Ex → St → Option α) :
    g114l4K (fun m765 m766 m767 v768 a770 a771 k776 k777 v769 => g114l4b m765 m766 m767 v768 a770 a771 k776 k777 (L m765 m766 m767 v768 a770 a771 k776 k777) v769) ls k = ev tab (g114hd L_g114l2 L_g114l0 L_g114l4) (bodyAt Go.Proofs.Try.f114 4) (atHead g114l4D ls) (loopK g114l4D 4 (loopH g114l4D (g114l4K L)) k) := by kernel_rfl
theorem g114Main  (L_g114l2 : {α : Type} → Int → Int → (List Int) → Int → (List Int) → (List Int) → (List Int) → (Int → (List Int) → Option α) → Int → Int → (List Int) → Option α) (L_g114l0 : {α : Type} → (List Int) → (List Int) → (List Int) → ((List Int) → Option α) → Int → (List Int) → Option α) (L_g114l4 : {α : Type} → Nat → Nat → Nat → Int → (List Int) → (List Int) → ((List Int) → Option α) → (Option α) → Int → Option α) {α : Type} (ls : List Lf) (k : TV → List (List Seg) → List (List Seg) → Option α) :
    g114K (g114b L_g114l2 L_g114l0 L_g114l4) ls k = evFun tab (g114hd L_g114l2 L_g114l0 L_g114l4) Go.Proofs.Try.f114 (fillT g114tp ls).1 (fillB g114bp (fillT g114tp ls).2).1 k := by kernel_rfl
theorem g114Calls (m : Nat) : (g114h m).CallsOk Go.Proofs.Try.prog := cok_nil
theorem g114l2Ok (m : Nat) (α : Type) (st : St) (k : Ex → St → Option α) (r : α) (h : (g114h m).loop 2 st k = some r) :
    ∃ e st', k e st' = some r ∧ CodeS Go.Proofs.Try.prog (.block 2 (.loop (bodyAt Go.Proofs.Try.f114 2))) st e st' :=
  loop_ok (tab := tab) (h := g114h m) (F := fun n ls k => g114l2K (fun v729 v730 a732 v733 a734 a736 a737 k754 v731 v735 a738 => g114l2 v729 v730 a732 v733 a734 a736 a737 k754 n v731 v735 a738) ls k) tabOk (g114Calls m) mixed (loopsOk_of _ (fun p hp => by rw [show loopsOf (bodyAt Go.Proofs.Try.f114 2) = [] by kernel_rfl] at hp; cases hp))
    (fun _ _ => rfl) (fun n ls k => g114l2Step (g114l2M m) (g114l0M m) (g114l4M m) (fun v729 v730 a732 v733 a734 a736 a737 k754 => g114l2 v729 v730 a732 v733 a734 a736 a737 k754 n) ls k) (n := m) h
theorem g114l0Ok (m : Nat) (α : Type) (st : St) (k : Ex → St → Option α) (r : α) (h : (g114h m).loop 0 st k = some r) :
    ∃ e st', k e st' = some r ∧ CodeS Go.Proofs.Try.prog (.block 0 (.loop (bodyAt Go.Proofs.Try.f114 0))) st e st' :=
  loop_ok (tab := tab) (h := g114h m) (F := fun n ls k => g114l0K (fun a722 a724 a725 k762 v723 a726 => g114l0 (g114l2M m) a722 a724 a725 k762 n v723 a726) ls k) tabOk (g114Calls m) mixed (loopsOk_of _ (fun p hp => by
    rw [show loopsOf (bodyAt Go.Proofs.Try.f114 0) = [(2, bodyAt Go.Proofs.Try.f114 2)] by kernel_rfl] at hp
    simp only [List.mem_cons, List.not_mem_nil, or_false] at hp
    rcases hp with rfl
    exact g114l2Ok m))
    (fun _ _ => rfl) (fun n ls k => g114l0Step (g114l2M m) (g114l0M m) (g114l4M m) (fun a722 a724 a725 k762 => g114l0 (g114l2M m) a722 a724 a725 k762 n) ls k) (n := m) h
theorem g114l4Ok (m : Nat) (α : Type) (st : St) (k : Ex → St → Option α) (r : α) (h : (g114h m).loop 4 st k = some r) :
    ∃ e st', k e st' = some r ∧ CodeS Go.Proofs.Try.prog (.block 4 (.loop (bodyAt Go.Proofs.Try.f114 4))) st e st' :=
  loop_ok (tab := tab) (h := g114h m) (F := fun n ls k => g114l4K (fun m765 m766 m767 v768 a770 a771 k776 k777 v769 => g114l4 m765 m766 m767 v768 a770 a771 k776 k777 n v769) ls k) tabOk (g114Calls m) mixed (loopsOk_of _ (fun p hp => by rw [show loopsOf (bodyAt Go.Proofs.Try.f114 4) = [] by kernel_rfl] at hp; cases hp))
    (fun _ _ => rfl) (fun n ls k => g114l4Step (g114l2M m) (g114l0M m) (g114l4M m) (fun m765 m766 m767 v768 a770 a771 k776 k777 => g114l4 m765 m766 m767 v768 a770 a771 k776 k777 n) ls k) (n := m) h
theorem g114Fn (m : Nat) : FnOk Go.Proofs.Try.prog 114 g114tp g114bp (fun {α} => g114K (g114 (α := α) m)) :=
  fn_ok (tab := tab) (h := g114h m) (fn := Go.Proofs.Try.f114) (F := fun {α} => g114K (g114 (α := α) m)) tabOk (g114Calls m) mixed (by kernel_rfl) (by kernel_rfl) (fun c hc => by
    rw [bodyOf_some hc]
    exact loopsOk_of _ (fun p hp => by
    rw [show loopsOf (bodyOf Go.Proofs.Try.f114) = [(0, bodyAt Go.Proofs.Try.f114 0), (4, bodyAt Go.Proofs.Try.f114 4)] by kernel_rfl] at hp
    simp only [List.mem_cons, List.not_mem_nil, or_false] at hp
    rcases hp with rfl | rfl
    · exact g114l0Ok m
    · exact g114l4Ok m))
    (fun α ls k => g114Main (g114l2M m) (g114l0M m) (g114l4M m) ls k)
theorem g114Ok (m : Nat) : RowOk Go.Proofs.Try.prog 114 (fun {α} => rowK g114tp g114bp (g114K (g114 (α := α) m))) := row_of (g114Fn m)

/-! ### g78: (*impl.calc).mul -/
def g78b {α : Type} (G_g114 : {α : Type} → (List Int) → (List Int) → ((List Int) → Bool → Option α) → Option α) (G_g67 : {α : Type} → Bool → (List Int) → (Bool → Option α) → Option α)  (q715 : Bool) (u716 : List Int) (q717 : Bool) (u718 : List Int) (q719 : Bool) (k788 : Bool → (List Int) → Bool → Option α) : Option α :=
  G_g114 u716 u718
    (fun l782 b783 =>
      cond q719
       (
        G_g67 (!(q715 == q717)) l782
          (fun b785 =>
            k788 b785 l782 true))
       (
        G_g67 (!(q715 == q717)) l782
          (fun b787 =>
            k788 b787 l782 b783)))
def g78 {α : Type} (m : Nat) : Bool → (List Int) → Bool → (List Int) → Bool → (Bool → (List Int) → Bool → Option α) → Option α :=
  g78b (g114 m) (g67 m)
def g78tp : List TP := [(.vl (.sv (.ptr 0 0))), (.vl (.agg [(.one .bool), (.seq (.int .u32) 6)])), (.vl (.agg [(.one .bool), (.seq (.int .u32) 6)]))]
def g78bp : List BP := [(true, [(.one .bool)])]
def g78K {α : Type} (G : Bool → (List Int) → Bool → (List Int) → Bool → (Bool → (List Int) → Bool → Option α) → Option α) (ls : List Lf) (k : TV → List (List Seg) → List (List Seg) → Option α) : Option α :=
  G (lf ls 0).bool ((lf ls 1).lst (.int .u32)) (lf ls 2).bool ((lf ls 3).lst (.int .u32)) (lf ls 4).bool
    (fun y0 y1 y2 => k (.vl (.agg [(.one (.bool y0)), (.seq (.int .u32) 6 y1)])) [[(.one (.bool y2))]] [])
def g78hd (G_g114 : {α : Type} → (List Int) → (List Int) → ((List Int) → Bool → Option α) → Option α) (G_g67 : {α : Type} → Bool → (List Int) → (Bool → Option α) → Option α)  : Hd where
  call := fun f args Bs k => cond (Nat.beq f 114) (rowK g114tp g114bp (g114K G_g114) args Bs k) (cond (Nat.beq f 67) (rowK g67tp g67bp (g67K G_g67) args Bs k) (none))
  loop := fun id st k => none
  ro := fun f => []
def g78h (m : Nat) : Hd := g78hd (g114 m) (g67 m)
theorem g78Main (G_g114 : {α : Type} → (List Int) → (List Int) → ((List Int) → Bool → Option α) → Option α) (G_g67 : {α : Type} → Bool → (List Int) → (Bool → Option α) → Option α)  {α : Type} (ls : List Lf) (k : TV → List (List Seg) → List (List Seg) → Option α) :
    g78K (g78b G_g114 G_g67) ls k = evFun tab (g78hd G_g114 G_g67) Go.Proofs.Try.f78 (fillT g78tp ls).1 (fillB g78bp (fillT g78tp ls).2).1 k := by kernel_rfl
theorem g78Calls (m : Nat) : (g78h m).CallsOk Go.Proofs.Try.prog := (cok_cons (g114Ok m) (cok_cons (g67Ok m) cok_nil))
theorem g78Fn (m : Nat) : FnOk Go.Proofs.Try.prog 78 g78tp g78bp (fun {α} => g78K (g78 (α := α) m)) :=
  fn_ok (tab := tab) (h := g78h m) (fn := Go.Proofs.Try.f78) (F := fun {α} => g78K (g78 (α := α) m)) tabOk (g78Calls m) mixed (by kernel_rfl) (by kernel_rfl) (fun c hc => by
    rw [bodyOf_some hc]
    exact loopsOk_of _ (fun p hp => by rw [show loopsOf (bodyOf Go.Proofs.Try.f78) = [] by kernel_rfl] at hp; cases hp))
    (fun α ls k => g78Main (g114 m) (g67 m) ls k)
theorem g78Ok (m : Nat) : RowOk Go.Proofs.Try.prog 78 (fun {α} => rowK g78tp g78bp (g78K (g78 (α := α) m))) := row_of (g78Fn m)

/-! ### g34: impl.MulWides -/
def g34b {α : Type} (G_g24 : {α : Type} → Bool → (List Int) → (Bool → Option α) → Option α) (G_g78 : {α : Type} → Bool → (List Int) → Bool → (List Int) → Bool → (Bool → (List Int) → Bool → Option α) → Option α) (G_g74 : {α : Type} → Bool → (List Int) → Bool → (Bool → (List Int) → Int → Option α) → Option α)  (q707 : Bool) (u708 : List Int) (q709 : Bool) (u710 : List Int) (k795 : Bool → (List Int) → Int → Option α) : Option α :=
  G_g24 q707 u708
    (fun b711 =>
      cond (!b711)
       (
        k795 false [0, 0, 0, 0, 0, 0] (1 : Int))
       (
        G_g24 q709 u710
          (fun b713 =>
            cond (!b713)
             (
              k795 false [0, 0, 0, 0, 0, 0] (1 : Int))
             (
              G_g78 q707 u708 q709 u710 false
                (fun b789 l790 b791 =>
                  G_g74 b789 l790 b791
                    (fun b792 l793 x794 =>
                      k795 b792 l793 x794))))))
def g34 {α : Type} (m : Nat) : Bool → (List Int) → Bool → (List Int) → (Bool → (List Int) → Int → Option α) → Option α :=
  g34b (g24 m) (g78 m) (g74 m)
def g34tp : List TP := [(.vl (.agg [(.one .bool), (.seq (.int .u32) 6)])), (.vl (.agg [(.one .bool), (.seq (.int .u32) 6)]))]
def g34bp : List BP := []
def g34K {α : Type} (G : Bool → (List Int) → Bool → (List Int) → (Bool → (List Int) → Int → Option α) → Option α) (ls : List Lf) (k : TV → List (List Seg) → List (List Seg) → Option α) : Option α :=
  G (lf ls 0).bool ((lf ls 1).lst (.int .u32)) (lf ls 2).bool ((lf ls 3).lst (.int .u32))
    (fun y0 y1 y2 => k (.tup [(.agg [(.one (.bool y0)), (.seq (.int .u32) 6 y1)]), (.sv (.int .i64 y2))]) [] [])
def g34hd (G_g24 : {α : Type} → Bool → (List Int) → (Bool → Option α) → Option α) (G_g78 : {α : Type} → Bool → (List Int) → Bool → (List Int) → Bool → (Bool → (List Int) → Bool → Option α) → Option α) (G_g74 : {α : Type} → Bool → (List Int) → Bool → (Bool → (List Int) → Int → Option α) → Option α)  : Hd where
  call := fun f args Bs k => cond (Nat.beq f 24) (rowK g24tp g24bp (g24K G_g24) args Bs k) (cond (Nat.beq f 78) (rowK g78tp g78bp (g78K G_g78) args Bs k) (cond (Nat.beq f 74) (rowK g74tp g74bp (g74K G_g74) args Bs k) (none)))
  loop := fun id st k => none
  ro := fun f => cond (Nat.beq f 74) [0] ([])
def g34h (m : Nat) : Hd := g34hd (g24 m) (g78 m) (g74 m)
theorem g34Main (G_g24 : {α : Type} → Bool → (List Int) → (Bool → Option α) → Option α) (G_g78 : {α : Type} → Bool → (List Int) → Bool → (List Int) → Bool → (Bool → (List Int) → Bool → Option α) → Option α) (G_g74 : {α : Type} → Bool → (List Int) → Bool → (Bool → (List Int) → Int → Option α) → Option α)  {α : Type} (ls : List Lf) (k : TV → List (List Seg) → List (List Seg) → Option α) :
    g34K (g34b G_g24 G_g78 G_g74) ls k = evFun tab (g34hd G_g24 G_g78 G_g74) Go.Proofs.Try.f34 (fillT g34tp ls).1 (fillB g34bp (fillT g34tp ls).2).1 k := by kernel_rfl
theorem g34Calls (m : Nat) : (g34h m).CallsOk Go.Proofs.Try.prog := (cok_cons (g24Ok m) (cok_cons (g78Ok m) (cok_cons (g74Ok m) cok_nil)))
theorem g34Fn (m : Nat) : FnOk Go.Proofs.Try.prog 34 g34tp g34bp (fun {α} => g34K (g34 (α := α) m)) :=
  fn_ok (tab := tab) (h := g34h m) (fn := Go.Proofs.Try.f34) (F := fun {α} => g34K (g34 (α := α) m)) tabOk (g34Calls m) mixed (by kernel_rfl) (by kernel_rfl) (fun c hc => by
    rw [bodyOf_some hc]
    exact loopsOk_of _ (fun p hp => by rw [show loopsOf (bodyOf Go.Proofs.Try.f34) = [] by kernel_rfl] at hp; cases hp))
    (fun α ls k => g34Main (g24 m) (g78 m) (g74 m) ls k)
theorem g34Ok (m : Nat) : RowOk Go.Proofs.Try.prog 34 (fun {α} => rowK g34tp g34bp (g34K (g34 (α := α) m))) := row_of (g34Fn m)

/-! ### g11: laws.FnExactMulWides -/
def g11b {α : Type} (G_g23 : {α : Type} → Bool → (List Int) → ((List Int) → Option α) → Option α) (G_g55 : {α : Type} → Bool → (List Int) → Bool → (List Int) → (Bool → (List Int) → Int → Option α) → Option α) (G_g34 : {α : Type} → Bool → (List Int) → Bool → (List Int) → (Bool → (List Int) → Int → Option α) → Option α) (G_g27 : {α : Type} → Bool → (List Int) → Bool → (List Int) → (Bool → Option α) → Option α)  (q610 : Bool) (u611 : List Int) (q612 : Bool) (u613 : List Int) (k802 : Bool → Option α) : Option α :=
  G_g23 q610 u611
    (fun l614 =>
      G_g23 q612 u613
        (fun l615 =>
          G_g55 q610 l614 q612 l615
            (fun b702 l703 x704 =>
              G_g23 q610 u611
                (fun l705 =>
                  G_g23 q612 u613
                    (fun l706 =>
                      G_g34 q610 l705 q612 l706
                        (fun b796 l797 x798 =>
                          G_g27 b796 l797 b702 l703
                            (fun b799 =>
                              cond (!b799)
                               (
                                k802 false)
                               (
                                cond (x798 != x704)
                                 (
                                  k802 false)
                                 (
                                  k802 true)))))))))
def g11 {α : Type} (m : Nat) : Bool → (List Int) → Bool → (List Int) → (Bool → Option α) → Option α :=
  g11b (g23 m) (g55 m) (g34 m) (g27 m)
def g11tp : List TP := [(.vl (.agg [(.one .bool), (.seq (.int .u32) 6)])), (.vl (.agg [(.one .bool), (.seq (.int .u32) 6)]))]
def g11bp : List BP := []
def g11K {α : Type} (G : Bool → (List Int) → Bool → (List Int) → (Bool → Option α) → Option α) (ls : List Lf) (k : TV → List (List Seg) → List (List Seg) → Option α) : Option α :=
  G (lf ls 0).bool ((lf ls 1).lst (.int .u32)) (lf ls 2).bool ((lf ls 3).lst (.int .u32))
    (fun y0 => k (.vl (.sv (.bool y0))) [] [])
def g11hd (G_g23 : {α : Type} → Bool → (List Int) → ((List Int) → Option α) → Option α) (G_g55 : {α : Type} → Bool → (List Int) → Bool → (List Int) → (Bool → (List Int) → Int → Option α) → Option α) (G_g34 : {α : Type} → Bool → (List Int) → Bool → (List Int) → (Bool → (List Int) → Int → Option α) → Option α) (G_g27 : {α : Type} → Bool → (List Int) → Bool → (List Int) → (Bool → Option α) → Option α)  : Hd where
  call := fun f args Bs k => cond (Nat.beq f 23) (rowK g23tp g23bp (g23K G_g23) args Bs k) (cond (Nat.beq f 55) (rowK g55tp g55bp (g55K G_g55) args Bs k) (cond (Nat.beq f 34) (rowK g34tp g34bp (g34K G_g34) args Bs k) (cond (Nat.beq f 27) (rowK g27tp g27bp (g27K G_g27) args Bs k) (none))))
  loop := fun id st k => none
  ro := fun f => []
def g11h (m : Nat) : Hd := g11hd (g23 m) (g55 m) (g34 m) (g27 m)
theorem g11Main (G_g23 : {α : Type} → Bool → (List Int) → ((List Int) → Option α) → Option α) (G_g55 : {α : Type} → Bool → (List Int) → Bool → (List Int) → (Bool → (List Int) → Int → Option α) → Option α) (G_g34 : {α : Type} → Bool → (List Int) → Bool → (List Int) → (Bool → (List Int) → Int → Option α) → Option α) (G_g27 : {α : Type} → Bool → (List Int) → Bool → (List Int) → (Bool → Option α) → Option α)  {α : Type} (ls : List Lf) (k : TV → List (List Seg) → List (List Seg) → Option α) :
    g11K (g11b G_g23 G_g55 G_g34 G_g27) ls k = evFun tab (g11hd G_g23 G_g55 G_g34 G_g27) Go.Proofs.Try.f11 (fillT g11tp ls).1 (fillB g11bp (fillT g11tp ls).2).1 k := by kernel_rfl
theorem g11Calls (m : Nat) : (g11h m).CallsOk Go.Proofs.Try.prog := (cok_cons (g23Ok m) (cok_cons (g55Ok m) (cok_cons (g34Ok m) (cok_cons (g27Ok m) cok_nil))))
theorem g11Fn (m : Nat) : FnOk Go.Proofs.Try.prog 11 g11tp g11bp (fun {α} => g11K (g11 (α := α) m)) :=
  fn_ok (tab := tab) (h := g11h m) (fn := Go.Proofs.Try.f11) (F := fun {α} => g11K (g11 (α := α) m)) tabOk (g11Calls m) mixed (by kernel_rfl) (by kernel_rfl) (fun c hc => by
    rw [bodyOf_some hc]
    exact loopsOk_of _ (fun p hp => by rw [show loopsOf (bodyOf Go.Proofs.Try.f11) = [] by kernel_rfl] at hp; cases hp))
    (fun α ls k => g11Main (g23 m) (g55 m) (g34 m) (g27 m) ls k)
theorem g11Ok (m : Nat) : RowOk Go.Proofs.Try.prog 11 (fun {α} => rowK g11tp g11bp (g11K (g11 (α := α) m))) := row_of (g11Fn m)

/-! ### g95: spec.l01Narrow -/
def g95l0b {α : Type}   (c813 : Bool) (a814 : List Int) (k819 : Option α) (k820 : Option α) (r821 : Int → Option α) (v812 : Int) : Option α :=
  cond (decide (v812 < (6 : Int)))
   (
    if 0 ≤ v812 ∧ v812 < (6 : Nat) then
      if v812.toNat < 6 then
        cond ((List.getD a814 v812.toNat 0) != (0 : Int))
         (
          k819)
         (
          r821 (IntKind.wrap .i64 (v812 + (1 : Int))))
      else
        none
    else
      none)
   (
    k820)
def g95l0 {α : Type}   (c813 : Bool) (a814 : List Int) (k819 : Option α) (k820 : Option α) : Nat → Int → Option α
  | 0 => fun _ => none
  | m + 1 => fun v812 => g95l0b c813 a814 k819 k820 (g95l0 c813 a814 k819 k820 m) v812
def g95l0M {α : Type} (m : Nat) : Bool → (List Int) → (Option α) → (Option α) → Int → Option α :=
  fun c813 a814 k819 k820 v812 => g95l0 c813 a814 k819 k820 m v812
def g95l0D : LoopD := { n := 44, sl := [0, 4], bl := [0], tp := [(.vl (.sv (.ptr 0 0))), (.vl (.sv (.int .i64)))], bp := [(false, [(.one .bool), (.seq (.int .u32) 6)])], xs := [(1, [2, 3], [0]), (2, [0], [0])] }
def g95l0K {α : Type} (L : Bool → (List Int) → (Option α) → (Option α) → Int → Option α) (ls : List Lf) (k : Ex → St → Option α) : Option α :=
  L (lf ls 1).bool ((lf ls 2).lst (.int .u32))
    (k .ret (mkSt 44 [2, 3] [(.vl (.sv (.int .i64 (0 : Int)))), (.vl (.sv (.bool false)))] [0] [(false, [(.one (.bool (lf ls 1).bool)), (.seq (.int .u32) 6 ((lf ls 2).lst (.int .u32)))])]))
    (k .normal (mkSt 44 [0] [(.vl (.sv (.ptr 0 0)))] [0] [(false, [(.one (.bool (lf ls 1).bool)), (.seq (.int .u32) 6 ((lf ls 2).lst (.int .u32)))])]))
    (lf ls 0).int
def g95b {α : Type}  (L_g95l0 : {α : Type} → Bool → (List Int) → (Option α) → (Option α) → Int → Option α) (q810 : Bool) (u811 : List Int) (k833 : Int → Bool → Option α) : Option α :=
  L_g95l0 q810 u811
    (
      k833 (0 : Int) false)
    (
      let x827 : Int := IntKind.wrap .u64 ((IntKind.wrap .u64 ((IntKind.wrap .u64 (List.getD u811 1 0)) * 2 ^ 32)) + (IntKind.wrap .u64 (List.getD u811 0 0)))
      cond q810
       (
        k833 (IntKind.wrap .i64 (IntKind.wrap .u64 (0 - x827))) (decide (x827 ≤ (9223372036854775808 : Int))))
       (
        k833 (IntKind.wrap .i64 x827) (decide (x827 < (9223372036854775808 : Int)))))
    (2 : Int)
def g95 {α : Type} (m : Nat) : Bool → (List Int) → (Int → Bool → Option α) → Option α :=
  g95b (g95l0M m)
def g95tp : List TP := [(.vl (.sv (.ptr 0 0)))]
def g95bp : List BP := [(false, [(.one .bool), (.seq (.int .u32) 6)])]
def g95K {α : Type} (G : Bool → (List Int) → (Int → Bool → Option α) → Option α) (ls : List Lf) (k : TV → List (List Seg) → List (List Seg) → Option α) : Option α :=
  G (lf ls 0).bool ((lf ls 1).lst (.int .u32))
    (fun y0 y1 => k (.tup [(.sv (.int .i64 y0)), (.sv (.bool y1))]) [[(.one (.bool (lf ls 0).bool)), (.seq (.int .u32) 6 ((lf ls 1).lst (.int .u32)))]] [])
def g95hd  (L_g95l0 : {α : Type} → Bool → (List Int) → (Option α) → (Option α) → Int → Option α) : Hd where
  call := fun f args Bs k => none
  loop := fun id st k => cond (Nat.beq id 0) (loopH g95l0D (g95l0K L_g95l0) st k) (none)
  ro := fun f => []
def g95h (m : Nat) : Hd := g95hd (g95l0M m)
theorem g95l0Step  (L_g95l0 : {α : Type} → Bool → (List Int) → (Option α) → (Option α) → Int → Option α) {α : Type} (L : Bool → (List Int) → (Option α) → (Option α) → Int → Option α) (ls : List Lf) (k : Ex → St → Option α) :
    g95l0K (fun c813 a814 k819 k820 v812 => g95l0b c813 a814 k819 k820 (L c813 a814 k819 k820) v812) ls k = ev tab (g95hd L_g95l0) (bodyAt Go.Proofs.Try.f95 0) (atHead g95l0D ls) (loopK g95l0D 0 (loopH g95l0D (g95l0K L)) k) := by kernel_rfl
theorem g95Main  (L_g95l0 : {α : Type} → Bool → (List Int) → (Option α) → (Option α) → Int → Option α) {α : Type} (ls : List Lf) (k : TV → List (List Seg) → List (List Seg) → Option α) :
    g95K (g95b L_g95l0) ls k = evFun tab (g95hd L_g95l0) Go.Proofs.Try.f95 (fillT g95tp ls).1 (fillB g95bp (fillT g95tp ls).2).1 k := by kernel_rfl
theorem g95Calls (m : Nat) : (g95h m).CallsOk Go.Proofs.Try.prog := cok_nil
theorem g95l0Ok (m : Nat) (α : Type) (st : St) (k : Ex → St → Option α) (r : α) (h : (g95h m).loop 0 st k = some r) :
    ∃ e st', k e st' = some r ∧ CodeS Go.Proofs.Try.prog (.block 0 (.loop (bodyAt Go.Proofs.Try.f95 0))) st e st' :=
  loop_ok (tab := tab) (h := g95h m) (F := fun n ls k => g95l0K (fun c813 a814 k819 k820 v812 => g95l0 c813 a814 k819 k820 n v812) ls k) tabOk (g95Calls m) mixed (loopsOk_of _ (fun p hp => by rw [show loopsOf (bodyAt Go.Proofs.Try.f95 0) = [] by kernel_rfl] at hp; cases hp))
    (fun _ _ => rfl) (fun n ls k => g95l0Step (g95l0M m) (fun c813 a814 k819 k820 => g95l0 c813 a814 k819 k820 n) ls k) (n := m) h
theorem g95Fn (m : Nat) : FnOk Go.Proofs.Try.prog 95 g95tp g95bp (fun {α} => g95K (g95 (α := α) m)) :=
  fn_ok (tab := tab) (h := g95h m) (fn := Go.Proofs.Try.f95) (F := fun {α} => g95K (g95 (α := α) m)) tabOk (g95Calls m) mixed (by kernel_rfl) (by kernel_rfl) (fun c hc => by
    rw [bodyOf_some hc]
    exact loopsOk_of _ (fun p hp => by
    rw [show loopsOf (bodyOf Go.Proofs.Try.f95) = [(0, bodyAt Go.Proofs.Try.f95 0)] by kernel_rfl] at hp
    simp only [List.mem_cons, List.not_mem_nil, or_false] at hp
    rcases hp with rfl
    exact g95l0Ok m))
    (fun α ls k => g95Main (g95l0M m) ls k)
theorem g95Ok (m : Nat) : RowOk Go.Proofs.Try.prog 95 (fun {α} => rowK g95tp g95bp (g95K (g95 (α := α) m))) := row_of (g95Fn m)

/-! ### g53: spec.NarrowOf -/
def g53b {α : Type} (G_g64 : {α : Type} → Bool → (List Int) → (Bool → Option α) → Option α) (G_g95 : {α : Type} → Bool → (List Int) → (Int → Bool → Option α) → Option α)  (q806 : Bool) (u807 : List Int) (k837 : Int → Int → Option α) : Option α :=
  G_g64 q806 u807
    (fun b808 =>
      cond (!b808)
       (
        k837 (0 : Int) (1 : Int))
       (
        G_g95 q806 u807
          (fun x834 b835 =>
            cond (!b835)
             (
              k837 (0 : Int) (2 : Int))
             (
              k837 x834 (0 : Int)))))
def g53 {α : Type} (m : Nat) : Bool → (List Int) → (Int → Int → Option α) → Option α :=
  g53b (g64 m) (g95 m)
def g53tp : List TP := [(.vl (.agg [(.one .bool), (.seq (.int .u32) 6)]))]
def g53bp : List BP := []
def g53K {α : Type} (G : Bool → (List Int) → (Int → Int → Option α) → Option α) (ls : List Lf) (k : TV → List (List Seg) → List (List Seg) → Option α) : Option α :=
  G (lf ls 0).bool ((lf ls 1).lst (.int .u32))
    (fun y0 y1 => k (.tup [(.sv (.int .i64 y0)), (.sv (.int .i64 y1))]) [] [])
def g53hd (G_g64 : {α : Type} → Bool → (List Int) → (Bool → Option α) → Option α) (G_g95 : {α : Type} → Bool → (List Int) → (Int → Bool → Option α) → Option α)  : Hd where
  call := fun f args Bs k => cond (Nat.beq f 64) (rowK g64tp g64bp (g64K G_g64) args Bs k) (cond (Nat.beq f 95) (rowK g95tp g95bp (g95K G_g95) args Bs k) (none))
  loop := fun id st k => none
  ro := fun f => cond (Nat.beq f 64) [0] (cond (Nat.beq f 95) [0] ([]))
def g53h (m : Nat) : Hd := g53hd (g64 m) (g95 m)
theorem g53Main (G_g64 : {α : Type} → Bool → (List Int) → (Bool → Option α) → Option α) (G_g95 : {α : Type} → Bool → (List Int) → (Int → Bool → Option α) → Option α)  {α : Type} (ls : List Lf) (k : TV → List (List Seg) → List (List Seg) → Option α) :
    g53K (g53b G_g64 G_g95) ls k = evFun tab (g53hd G_g64 G_g95) Go.Proofs.Try.f53 (fillT g53tp ls).1 (fillB g53bp (fillT g53tp ls).2).1 k := by kernel_rfl
theorem g53Calls (m : Nat) : (g53h m).CallsOk Go.Proofs.Try.prog := (cok_cons (g64Ok m) (cok_cons (g95Ok m) cok_nil))
theorem g53Fn (m : Nat) : FnOk Go.Proofs.Try.prog 53 g53tp g53bp (fun {α} => g53K (g53 (α := α) m)) :=
  fn_ok (tab := tab) (h := g53h m) (fn := Go.Proofs.Try.f53) (F := fun {α} => g53K (g53 (α := α) m)) tabOk (g53Calls m) mixed (by kernel_rfl) (by kernel_rfl) (fun c hc => by
    rw [bodyOf_some hc]
    exact loopsOk_of _ (fun p hp => by rw [show loopsOf (bodyOf Go.Proofs.Try.f53) = [] by kernel_rfl] at hp; cases hp))
    (fun α ls k => g53Main (g64 m) (g95 m) ls k)
theorem g53Ok (m : Nat) : RowOk Go.Proofs.Try.prog 53 (fun {α} => rowK g53tp g53bp (g53K (g53 (α := α) m))) := row_of (g53Fn m)

/-! ### g96: impl.narrow -/
def g96b {α : Type} (G_g94 : {α : Type} → (List Int) → (Int → Option α) → Option α)  (q845 : Bool) (u846 : List Int) (k864 : Int → Bool → Option α) : Option α :=
  let x852 : Int := ibits .or .u64 (IntKind.wrap .u64 ((IntKind.wrap .u64 (List.getD u846 1 0)) * 2 ^ 32)) (IntKind.wrap .u64 (List.getD u846 0 0))
  G_g94 u846
    (fun x853 =>
      cond (decide (x853 > (64 : Int)))
       (
        k864 (0 : Int) false)
       (
        cond (decide (x852 > (9223372036854775808 : Int)))
         (
          k864 (0 : Int) false)
         (
          cond (x852 == (9223372036854775808 : Int))
           (
            cond (!q845)
             (
              k864 (0 : Int) false)
             (
              cond q845
               (
                k864 (IntKind.wrap .i64 (IntKind.wrap .u64 (0 - x852))) true)
               (
                k864 (IntKind.wrap .i64 x852) true)))
           (
            cond q845
             (
              k864 (IntKind.wrap .i64 (IntKind.wrap .u64 (0 - x852))) true)
             (
              k864 (IntKind.wrap .i64 x852) true)))))
def g96 {α : Type} (m : Nat) : Bool → (List Int) → (Int → Bool → Option α) → Option α :=
  g96b (g94 m)
def g96tp : List TP := [(.vl (.agg [(.one .bool), (.seq (.int .u32) 6)]))]
def g96bp : List BP := []
def g96K {α : Type} (G : Bool → (List Int) → (Int → Bool → Option α) → Option α) (ls : List Lf) (k : TV → List (List Seg) → List (List Seg) → Option α) : Option α :=
  G (lf ls 0).bool ((lf ls 1).lst (.int .u32))
    (fun y0 y1 => k (.tup [(.sv (.int .i64 y0)), (.sv (.bool y1))]) [] [])
def g96hd (G_g94 : {α : Type} → (List Int) → (Int → Option α) → Option α)  : Hd where
  call := fun f args Bs k => cond (Nat.beq f 94) (rowK g94tp g94bp (g94K G_g94) args Bs k) (none)
  loop := fun id st k => none
  ro := fun f => []
def g96h (m : Nat) : Hd := g96hd (g94 m)
theorem g96Main (G_g94 : {α : Type} → (List Int) → (Int → Option α) → Option α)  {α : Type} (ls : List Lf) (k : TV → List (List Seg) → List (List Seg) → Option α) :
    g96K (g96b G_g94) ls k = evFun tab (g96hd G_g94) Go.Proofs.Try.f96 (fillT g96tp ls).1 (fillB g96bp (fillT g96tp ls).2).1 k := by kernel_rfl
theorem g96Calls (m : Nat) : (g96h m).CallsOk Go.Proofs.Try.prog := (cok_cons (g94Ok m) cok_nil)
theorem g96Fn (m : Nat) : FnOk Go.Proofs.Try.prog 96 g96tp g96bp (fun {α} => g96K (g96 (α := α) m)) :=
  fn_ok (tab := tab) (h := g96h m) (fn := Go.Proofs.Try.f96) (F := fun {α} => g96K (g96 (α := α) m)) tabOk (g96Calls m) mixed (by kernel_rfl) (by kernel_rfl) (fun c hc => by
    rw [bodyOf_some hc]
    exact loopsOk_of _ (fun p hp => by rw [show loopsOf (bodyOf Go.Proofs.Try.f96) = [] by kernel_rfl] at hp; cases hp))
    (fun α ls k => g96Main (g94 m) ls k)
theorem g96Ok (m : Nat) : RowOk Go.Proofs.Try.prog 96 (fun {α} => rowK g96tp g96bp (g96K (g96 (α := α) m))) := row_of (g96Fn m)

/-! ### g54: impl.NarrowOf -/
def g54b {α : Type} (G_g24 : {α : Type} → Bool → (List Int) → (Bool → Option α) → Option α) (G_g96 : {α : Type} → Bool → (List Int) → (Int → Bool → Option α) → Option α)  (q841 : Bool) (u842 : List Int) (k868 : Int → Int → Option α) : Option α :=
  G_g24 q841 u842
    (fun b843 =>
      cond (!b843)
       (
        k868 (0 : Int) (1 : Int))
       (
        G_g96 q841 u842
          (fun x865 b866 =>
            cond (!b866)
             (
              k868 (0 : Int) (2 : Int))
             (
              k868 x865 (0 : Int)))))
def g54 {α : Type} (m : Nat) : Bool → (List Int) → (Int → Int → Option α) → Option α :=
  g54b (g24 m) (g96 m)
def g54tp : List TP := [(.vl (.agg [(.one .bool), (.seq (.int .u32) 6)]))]
def g54bp : List BP := []
def g54K {α : Type} (G : Bool → (List Int) → (Int → Int → Option α) → Option α) (ls : List Lf) (k : TV → List (List Seg) → List (List Seg) → Option α) : Option α :=
  G (lf ls 0).bool ((lf ls 1).lst (.int .u32))
    (fun y0 y1 => k (.tup [(.sv (.int .i64 y0)), (.sv (.int .i64 y1))]) [] [])
def g54hd (G_g24 : {α : Type} → Bool → (List Int) → (Bool → Option α) → Option α) (G_g96 : {α : Type} → Bool → (List Int) → (Int → Bool → Option α) → Option α)  : Hd where
  call := fun f args Bs k => cond (Nat.beq f 24) (rowK g24tp g24bp (g24K G_g24) args Bs k) (cond (Nat.beq f 96) (rowK g96tp g96bp (g96K G_g96) args Bs k) (none))
  loop := fun id st k => none
  ro := fun f => []
def g54h (m : Nat) : Hd := g54hd (g24 m) (g96 m)
theorem g54Main (G_g24 : {α : Type} → Bool → (List Int) → (Bool → Option α) → Option α) (G_g96 : {α : Type} → Bool → (List Int) → (Int → Bool → Option α) → Option α)  {α : Type} (ls : List Lf) (k : TV → List (List Seg) → List (List Seg) → Option α) :
    g54K (g54b G_g24 G_g96) ls k = evFun tab (g54hd G_g24 G_g96) Go.Proofs.Try.f54 (fillT g54tp ls).1 (fillB g54bp (fillT g54tp ls).2).1 k := by kernel_rfl
theorem g54Calls (m : Nat) : (g54h m).CallsOk Go.Proofs.Try.prog := (cok_cons (g24Ok m) (cok_cons (g96Ok m) cok_nil))
theorem g54Fn (m : Nat) : FnOk Go.Proofs.Try.prog 54 g54tp g54bp (fun {α} => g54K (g54 (α := α) m)) :=
  fn_ok (tab := tab) (h := g54h m) (fn := Go.Proofs.Try.f54) (F := fun {α} => g54K (g54 (α := α) m)) tabOk (g54Calls m) mixed (by kernel_rfl) (by kernel_rfl) (fun c hc => by
    rw [bodyOf_some hc]
    exact loopsOk_of _ (fun p hp => by rw [show loopsOf (bodyOf Go.Proofs.Try.f54) = [] by kernel_rfl] at hp; cases hp))
    (fun α ls k => g54Main (g24 m) (g96 m) ls k)
theorem g54Ok (m : Nat) : RowOk Go.Proofs.Try.prog 54 (fun {α} => rowK g54tp g54bp (g54K (g54 (α := α) m))) := row_of (g54Fn m)

/-! ### g10: laws.FnExactNarrowOf -/
def g10b {α : Type} (G_g23 : {α : Type} → Bool → (List Int) → ((List Int) → Option α) → Option α) (G_g53 : {α : Type} → Bool → (List Int) → (Int → Int → Option α) → Option α) (G_g54 : {α : Type} → Bool → (List Int) → (Int → Int → Option α) → Option α)  (q803 : Bool) (u804 : List Int) (k873 : Bool → Option α) : Option α :=
  G_g23 q803 u804
    (fun l805 =>
      G_g53 q803 l805
        (fun x838 x839 =>
          G_g23 q803 u804
            (fun l840 =>
              G_g54 q803 l840
                (fun x869 x870 =>
                  cond (x869 != x838)
                   (
                    k873 false)
                   (
                    cond (x870 != x839)
                     (
                      k873 false)
                     (
                      k873 true))))))
def g10 {α : Type} (m : Nat) : Bool → (List Int) → (Bool → Option α) → Option α :=
  g10b (g23 m) (g53 m) (g54 m)
def g10tp : List TP := [(.vl (.agg [(.one .bool), (.seq (.int .u32) 6)]))]
def g10bp : List BP := []
def g10K {α : Type} (G : Bool → (List Int) → (Bool → Option α) → Option α) (ls : List Lf) (k : TV → List (List Seg) → List (List Seg) → Option α) : Option α :=
  G (lf ls 0).bool ((lf ls 1).lst (.int .u32))
    (fun y0 => k (.vl (.sv (.bool y0))) [] [])
def g10hd (G_g23 : {α : Type} → Bool → (List Int) → ((List Int) → Option α) → Option α) (G_g53 : {α : Type} → Bool → (List Int) → (Int → Int → Option α) → Option α) (G_g54 : {α : Type} → Bool → (List Int) → (Int → Int → Option α) → Option α)  : Hd where
  call := fun f args Bs k => cond (Nat.beq f 23) (rowK g23tp g23bp (g23K G_g23) args Bs k) (cond (Nat.beq f 53) (rowK g53tp g53bp (g53K G_g53) args Bs k) (cond (Nat.beq f 54) (rowK g54tp g54bp (g54K G_g54) args Bs k) (none)))
  loop := fun id st k => none
  ro := fun f => []
def g10h (m : Nat) : Hd := g10hd (g23 m) (g53 m) (g54 m)
theorem g10Main (G_g23 : {α : Type} → Bool → (List Int) → ((List Int) → Option α) → Option α) (G_g53 : {α : Type} → Bool → (List Int) → (Int → Int → Option α) → Option α) (G_g54 : {α : Type} → Bool → (List Int) → (Int → Int → Option α) → Option α)  {α : Type} (ls : List Lf) (k : TV → List (List Seg) → List (List Seg) → Option α) :
    g10K (g10b G_g23 G_g53 G_g54) ls k = evFun tab (g10hd G_g23 G_g53 G_g54) Go.Proofs.Try.f10 (fillT g10tp ls).1 (fillB g10bp (fillT g10tp ls).2).1 k := by kernel_rfl
theorem g10Calls (m : Nat) : (g10h m).CallsOk Go.Proofs.Try.prog := (cok_cons (g23Ok m) (cok_cons (g53Ok m) (cok_cons (g54Ok m) cok_nil)))
theorem g10Fn (m : Nat) : FnOk Go.Proofs.Try.prog 10 g10tp g10bp (fun {α} => g10K (g10 (α := α) m)) :=
  fn_ok (tab := tab) (h := g10h m) (fn := Go.Proofs.Try.f10) (F := fun {α} => g10K (g10 (α := α) m)) tabOk (g10Calls m) mixed (by kernel_rfl) (by kernel_rfl) (fun c hc => by
    rw [bodyOf_some hc]
    exact loopsOk_of _ (fun p hp => by rw [show loopsOf (bodyOf Go.Proofs.Try.f10) = [] by kernel_rfl] at hp; cases hp))
    (fun α ls k => g10Main (g23 m) (g53 m) (g54 m) ls k)
theorem g10Ok (m : Nat) : RowOk Go.Proofs.Try.prog 10 (fun {α} => rowK g10tp g10bp (g10K (g10 (α := α) m))) := row_of (g10Fn m)

/-! ### g120: spec.l00In -/
def g120b {α : Type}   (p884 : Int) (p885 : Int) (p886 : Int) (k889 : Bool → Option α) : Option α :=
  cond (decide (p884 ≥ p885))
   (
    k889 (decide (p884 ≤ p886)))
   (
    k889 false)
def g120 {α : Type} (m : Nat) : Int → Int → Int → (Bool → Option α) → Option α :=
  g120b
def g120tp : List TP := [(.vl (.sv (.int .i64))), (.vl (.sv (.int .i64))), (.vl (.sv (.int .i64)))]
def g120bp : List BP := []
def g120K {α : Type} (G : Int → Int → Int → (Bool → Option α) → Option α) (ls : List Lf) (k : TV → List (List Seg) → List (List Seg) → Option α) : Option α :=
  G (lf ls 0).int (lf ls 1).int (lf ls 2).int
    (fun y0 => k (.vl (.sv (.bool y0))) [] [])
def g120hd   : Hd where
  call := fun f args Bs k => none
  loop := fun id st k => none
  ro := fun f => []
def g120h (m : Nat) : Hd := g120hd
theorem g120Main   {α : Type} (ls : List Lf) (k : TV → List (List Seg) → List (List Seg) → Option α) :
    g120K (g120b) ls k = evFun tab (g120hd) Go.Proofs.Try.f120 (fillT g120tp ls).1 (fillB g120bp (fillT g120tp ls).2).1 k := by kernel_rfl
theorem g120Calls (m : Nat) : (g120h m).CallsOk Go.Proofs.Try.prog := cok_nil
theorem g120Fn (m : Nat) : FnOk Go.Proofs.Try.prog 120 g120tp g120bp (fun {α} => g120K (g120 (α := α) m)) :=
  fn_ok (tab := tab) (h := g120h m) (fn := Go.Proofs.Try.f120) (F := fun {α} => g120K (g120 (α := α) m)) tabOk (g120Calls m) mixed (by kernel_rfl) (by kernel_rfl) (fun c hc => by
    rw [bodyOf_some hc]
    exact loopsOk_of _ (fun p hp => by rw [show loopsOf (bodyOf Go.Proofs.Try.f120) = [] by kernel_rfl] at hp; cases hp))
    (fun α ls k => g120Main ls k)
theorem g120Ok (m : Nat) : RowOk Go.Proofs.Try.prog 120 (fun {α} => rowK g120tp g120bp (g120K (g120 (α := α) m))) := row_of (g120Fn m)

/-! ### g98: spec.l01Shift -/
def g98b {α : Type} (G_g120 : {α : Type} → Int → Int → Int → (Bool → Option α) → Option α)  (p883 : Int) (k891 : Bool → Option α) : Option α :=
  G_g120 p883 (0 : Int) (191 : Int)
    (fun b890 =>
      k891 b890)
def g98 {α : Type} (m : Nat) : Int → (Bool → Option α) → Option α :=
  g98b (g120 m)
def g98tp : List TP := [(.vl (.sv (.int .i64)))]
def g98bp : List BP := []
def g98K {α : Type} (G : Int → (Bool → Option α) → Option α) (ls : List Lf) (k : TV → List (List Seg) → List (List Seg) → Option α) : Option α :=
  G (lf ls 0).int
    (fun y0 => k (.vl (.sv (.bool y0))) [] [])
def g98hd (G_g120 : {α : Type} → Int → Int → Int → (Bool → Option α) → Option α)  : Hd where
  call := fun f args Bs k => cond (Nat.beq f 120) (rowK g120tp g120bp (g120K G_g120) args Bs k) (none)
  loop := fun id st k => none
  ro := fun f => []
def g98h (m : Nat) : Hd := g98hd (g120 m)
theorem g98Main (G_g120 : {α : Type} → Int → Int → Int → (Bool → Option α) → Option α)  {α : Type} (ls : List Lf) (k : TV → List (List Seg) → List (List Seg) → Option α) :
    g98K (g98b G_g120) ls k = evFun tab (g98hd G_g120) Go.Proofs.Try.f98 (fillT g98tp ls).1 (fillB g98bp (fillT g98tp ls).2).1 k := by kernel_rfl
theorem g98Calls (m : Nat) : (g98h m).CallsOk Go.Proofs.Try.prog := (cok_cons (g120Ok m) cok_nil)
theorem g98Fn (m : Nat) : FnOk Go.Proofs.Try.prog 98 g98tp g98bp (fun {α} => g98K (g98 (α := α) m)) :=
  fn_ok (tab := tab) (h := g98h m) (fn := Go.Proofs.Try.f98) (F := fun {α} => g98K (g98 (α := α) m)) tabOk (g98Calls m) mixed (by kernel_rfl) (by kernel_rfl) (fun c hc => by
    rw [bodyOf_some hc]
    exact loopsOk_of _ (fun p hp => by rw [show loopsOf (bodyOf Go.Proofs.Try.f98) = [] by kernel_rfl] at hp; cases hp))
    (fun α ls k => g98Main (g120 m) ls k)
theorem g98Ok (m : Nat) : RowOk Go.Proofs.Try.prog 98 (fun {α} => rowK g98tp g98bp (g98K (g98 (α := α) m))) := row_of (g98Fn m)

/-! ### g56: spec.PowerWide -/
def g56l0b {α : Type} (G_g97 : {α : Type} → Bool → (List Int) → Bool → (List Int) → (Bool → (List Int) → Int → Option α) → Option α)  (v896 : Int) (c898 : Bool) (a899 : List Int) (c900 : Bool) (a901 : List Int) (k910 : Int → (List Int) → Option α) (k911 : Bool → (List Int) → Option α) (r912 : Int → Bool → (List Int) → Option α) (v897 : Int) (c902 : Bool) (a903 : List Int) : Option α :=
  cond (decide (v897 < v896))
   (
    G_g97 c902 a903 c898 a899
      (fun b905 l906 x907 =>
        cond (x907 != (0 : Int))
         (
          k910 x907 [0, 0, 0, 0, 0, 0])
         (
          r912 (IntKind.wrap .i64 (v897 + (1 : Int))) b905 l906)))
   (
    k911 c902 a903)
def g56l0 {α : Type} (G_g97 : {α : Type} → Bool → (List Int) → Bool → (List Int) → (Bool → (List Int) → Int → Option α) → Option α)  (v896 : Int) (c898 : Bool) (a899 : List Int) (c900 : Bool) (a901 : List Int) (k910 : Int → (List Int) → Option α) (k911 : Bool → (List Int) → Option α) : Nat → Int → Bool → (List Int) → Option α
  | 0 => fun _ _ _ => none
  | m + 1 => fun v897 c902 a903 => g56l0b G_g97 v896 c898 a899 c900 a901 k910 k911 (g56l0 G_g97 v896 c898 a899 c900 a901 k910 k911 m) v897 c902 a903
def g56l0M {α : Type} (m : Nat) : Int → Bool → (List Int) → Bool → (List Int) → (Int → (List Int) → Option α) → (Bool → (List Int) → Option α) → Int → Bool → (List Int) → Option α :=
  fun v896 c898 a899 c900 a901 k910 k911 v897 c902 a903 => g56l0 (g97 m) v896 c898 a899 c900 a901 k910 k911 m v897 c902 a903
def g56l0D : LoopD := { n := 35, sl := [1, 2, 4, 6, 7], bl := [1002, 1004, 1006], tp := [(.vl (.sv (.int .i64))), (.vl (.sv (.ptr 1002 0))), (.vl (.sv (.ptr 1004 0))), (.vl (.sv (.ptr 1006 0))), (.vl (.sv (.int .i64)))], bp := [(true, [(.one .bool), (.seq (.int .u32) 6)]), (true, [(.one .bool), (.seq (.int .u32) 6)]), (true, [(.one .bool), (.seq (.int .u32) 6)])], xs := [(1, [4, 5], [1004]), (2, [4, 6], [1004, 1006])] }
def g56l0K {α : Type} (L : Int → Bool → (List Int) → Bool → (List Int) → (Int → (List Int) → Option α) → (Bool → (List Int) → Option α) → Int → Bool → (List Int) → Option α) (ls : List Lf) (k : Ex → St → Option α) : Option α :=
  L (lf ls 0).int (lf ls 2).bool ((lf ls 3).lst (.int .u32)) (lf ls 4).bool ((lf ls 5).lst (.int .u32))
    (fun y0 y2 => k .ret (mkSt 35 [4, 5] [(.vl (.sv (.ptr 1004 0))), (.vl (.sv (.int .i64 y0)))] [1004] [(true, [(.one (.bool false)), (.seq (.int .u32) 6 y2)])]))
    (fun y2 y3 => k .normal (mkSt 35 [4, 6] [(.vl (.sv (.ptr 1004 0))), (.vl (.sv (.ptr 1006 0)))] [1004, 1006] [(true, [(.one (.bool (lf ls 4).bool)), (.seq (.int .u32) 6 ((lf ls 5).lst (.int .u32)))]), (true, [(.one (.bool y2)), (.seq (.int .u32) 6 y3)])]))
    (lf ls 1).int (lf ls 6).bool ((lf ls 7).lst (.int .u32))
def g56b {α : Type} (G_g64 : {α : Type} → Bool → (List Int) → (Bool → Option α) → Option α) (G_g98 : {α : Type} → Int → (Bool → Option α) → Option α) (G_g66 : {α : Type} → Int → (Bool → (List Int) → Option α) → Option α) (G_g97 : {α : Type} → Bool → (List Int) → Bool → (List Int) → (Bool → (List Int) → Int → Option α) → Option α) (L_g56l0 : {α : Type} → Int → Bool → (List Int) → Bool → (List Int) → (Int → (List Int) → Option α) → (Bool → (List Int) → Option α) → Int → Bool → (List Int) → Option α) (q878 : Bool) (u879 : List Int) (p880 : Int) (k917 : Bool → (List Int) → Int → Option α) : Option α :=
  G_g64 q878 u879
    (fun b881 =>
      cond (!b881)
       (
        k917 false [0, 0, 0, 0, 0, 0] (1 : Int))
       (
        G_g98 p880
          (fun b892 =>
            cond (!b892)
             (
              k917 false [0, 0, 0, 0, 0, 0] (2 : Int))
             (
              G_g66 (1 : Int)
                (fun b894 l895 =>
                  L_g56l0 p880 q878 u879 false [0, 0, 0, 0, 0, 0]
                    (fun x913 l914 =>
                      k917 false l914 x913)
                    (fun b915 l916 =>
                      k917 b915 l916 (0 : Int))
                    (0 : Int) b894 l895)))))
def g56 {α : Type} (m : Nat) : Bool → (List Int) → Int → (Bool → (List Int) → Int → Option α) → Option α :=
  g56b (g64 m) (g98 m) (g66 m) (g97 m) (g56l0M m)
def g56tp : List TP := [(.vl (.agg [(.one .bool), (.seq (.int .u32) 6)])), (.vl (.sv (.int .i64)))]
def g56bp : List BP := []
def g56K {α : Type} (G : Bool → (List Int) → Int → (Bool → (List Int) → Int → Option α) → Option α) (ls : List Lf) (k : TV → List (List Seg) → List (List Seg) → Option α) : Option α :=
  G (lf ls 0).bool ((lf ls 1).lst (.int .u32)) (lf ls 2).int
    (fun y0 y1 y2 => k (.tup [(.agg [(.one (.bool y0)), (.seq (.int .u32) 6 y1)]), (.sv (.int .i64 y2))]) [] [])
def g56hd (G_g64 : {α : Type} → Bool → (List Int) → (Bool → Option α) → Option α) (G_g98 : {α : Type} → Int → (Bool → Option α) → Option α) (G_g66 : {α : Type} → Int → (Bool → (List Int) → Option α) → Option α) (G_g97 : {α : Type} → Bool → (List Int) → Bool → (List Int) → (Bool → (List Int) → Int → Option α) → Option α) (L_g56l0 : {α : Type} → Int → Bool → (List Int) → Bool → (List Int) → (Int → (List Int) → Option α) → (Bool → (List Int) → Option α) → Int → Bool → (List Int) → Option α) : Hd where
  call := fun f args Bs k => cond (Nat.beq f 64) (rowK g64tp g64bp (g64K G_g64) args Bs k) (cond (Nat.beq f 98) (rowK g98tp g98bp (g98K G_g98) args Bs k) (cond (Nat.beq f 66) (rowK g66tp g66bp (g66K G_g66) args Bs k) (cond (Nat.beq f 97) (rowK g97tp g97bp (g97K G_g97) args Bs k) (none))))
  loop := fun id st k => cond (Nat.beq id 0) (loopH g56l0D (g56l0K L_g56l0) st k) (none)
  ro := fun f => cond (Nat.beq f 64) [0] ([])
def g56h (m : Nat) : Hd := g56hd (g64 m) (g98 m) (g66 m) (g97 m) (g56l0M m)
theorem g56l0Step (G_g64 : {α : Type} → Bool → (List Int) → (Bool → Option α) → Option α) (G_g98 : {α : Type} → Int → (Bool → Option α) → Option α) (G_g66 : {α : Type} → Int → (Bool → (List Int) → Option α) → Option α) (G_g97 : {α : Type} → Bool → (List Int) → Bool → (List Int) → (Bool → (List Int) → Int → Option α) → Option α) (L_g56l0 : {α : Type} → Int → Bool → (List Int) → Bool → (List Int) → (Int → (List Int) → Option α) → (Bool → (List Int) → Option α) → Int → Bool → (List Int) → Option α) {α : Type} (L : Int → Bool → (List Int) → Bool → (List Int) → (Int → (List Int) → Option α) → (Bool → (List Int) → Option α) → Int → Bool → (List Int) → Option α) (ls : List Lf) (k : Ex → St → Option α) :
    g56l0K (fun v896 c898 a899 c900 a901 k910 k911 v897 c902 a903 => g56l0b G_g97 v896 c898 a899 c900 a901 k910 k911 (L v896 c898 a899 c900 a901 k910 k911) v897 c902 a903) ls k = ev tab (g56hd G_g64 G_g98 G_g66 G_g97 L_g56l0) (bodyAt Go.Proofs.Try.f56 0) (atHead g56l0D ls) (loopK g56l0D 0 (loopH g56l0D (g56l0K L)) k) := by kernel_rfl
theorem g56Main (G_g64 : {α : Type} → Bool → (List Int) → (Bool → Option α) → Option α) (G_g98 : {α : Type} → Int → (Bool → Option α) → Option α) (G_g66 : {α : Type} → Int → (Bool → (List Int) → Option α) → Option α) (G_g97 : {α : Type} → Bool → (List Int) → Bool → (List Int) → (Bool → (List Int) → Int → Option α) → Option α) (L_g56l0 : {α : Type} → Int → Bool → (List Int) → Bool → (List Int) → (Int → (List Int) → Option α) → (Bool → (List Int) → Option α) → Int → Bool → (List Int) → Option α) {α : Type} (ls : List Lf) (k : TV → List (List Seg) → List (List Seg) → Option α) :
    g56K (g56b G_g64 G_g98 G_g66 G_g97 L_g56l0) ls k = evFun tab (g56hd G_g64 G_g98 G_g66 G_g97 L_g56l0) Go.Proofs.Try.f56 (fillT g56tp ls).1 (fillB g56bp (fillT g56tp ls).2).1 k := by kernel_rfl
theorem g56Calls (m : Nat) : (g56h m).CallsOk Go.Proofs.Try.prog := (cok_cons (g64Ok m) (cok_cons (g98Ok m) (cok_cons (g66Ok m) (cok_cons (g97Ok m) cok_nil))))
theorem g56l0Ok (m : Nat) (α : Type) (st : St) (k : Ex → St → Option α) (r : α) (h : (g56h m).loop 0 st k = some r) :
    ∃ e st', k e st' = some r ∧ CodeS Go.Proofs.Try.prog (.block 0 (.loop (bodyAt Go.Proofs.Try.f56 0))) st e st' :=
  loop_ok (tab := tab) (h := g56h m) (F := fun n ls k => g56l0K (fun v896 c898 a899 c900 a901 k910 k911 v897 c902 a903 => g56l0 (g97 m) v896 c898 a899 c900 a901 k910 k911 n v897 c902 a903) ls k) tabOk (g56Calls m) mixed (loopsOk_of _ (fun p hp => by rw [show loopsOf (bodyAt Go.Proofs.Try.f56 0) = [] by kernel_rfl] at hp; cases hp))
    (fun _ _ => rfl) (fun n ls k => g56l0Step (g64 m) (g98 m) (g66 m) (g97 m) (g56l0M m) (fun v896 c898 a899 c900 a901 k910 k911 => g56l0 (g97 m) v896 c898 a899 c900 a901 k910 k911 n) ls k) (n := m) h
theorem g56Fn (m : Nat) : FnOk Go.Proofs.Try.prog 56 g56tp g56bp (fun {α} => g56K (g56 (α := α) m)) :=
  fn_ok (tab := tab) (h := g56h m) (fn := Go.Proofs.Try.f56) (F := fun {α} => g56K (g56 (α := α) m)) tabOk (g56Calls m) mixed (by kernel_rfl) (by kernel_rfl) (fun c hc => by
    rw [bodyOf_some hc]
    exact loopsOk_of _ (fun p hp => by
    rw [show loopsOf (bodyOf Go.Proofs.Try.f56) = [(0, bodyAt Go.Proofs.Try.f56 0)] by kernel_rfl] at hp
    simp only [List.mem_cons, List.not_mem_nil, or_false] at hp
    rcases hp with rfl
    exact g56l0Ok m))
    (fun α ls k => g56Main (g64 m) (g98 m) (g66 m) (g97 m) (g56l0M m) ls k)
theorem g56Ok (m : Nat) : RowOk Go.Proofs.Try.prog 56 (fun {α} => rowK g56tp g56bp (g56K (g56 (α := α) m))) := row_of (g56Fn m)

/-! ### g84: impl.within -/
def g84b {α : Type}   (p927 : Int) (p928 : Int) (p929 : Int) (k932 : Bool → Option α) : Option α :=
  cond (decide (p927 ≥ p928))
   (
    k932 (decide (p927 ≤ p929)))
   (
    k932 false)
def g84 {α : Type} (m : Nat) : Int → Int → Int → (Bool → Option α) → Option α :=
  g84b
def g84tp : List TP := [(.vl (.sv (.int .i64))), (.vl (.sv (.int .i64))), (.vl (.sv (.int .i64)))]
def g84bp : List BP := []
def g84K {α : Type} (G : Int → Int → Int → (Bool → Option α) → Option α) (ls : List Lf) (k : TV → List (List Seg) → List (List Seg) → Option α) : Option α :=
  G (lf ls 0).int (lf ls 1).int (lf ls 2).int
    (fun y0 => k (.vl (.sv (.bool y0))) [] [])
def g84hd   : Hd where
  call := fun f args Bs k => none
  loop := fun id st k => none
  ro := fun f => []
def g84h (m : Nat) : Hd := g84hd
theorem g84Main   {α : Type} (ls : List Lf) (k : TV → List (List Seg) → List (List Seg) → Option α) :
    g84K (g84b) ls k = evFun tab (g84hd) Go.Proofs.Try.f84 (fillT g84tp ls).1 (fillB g84bp (fillT g84tp ls).2).1 k := by kernel_rfl
theorem g84Calls (m : Nat) : (g84h m).CallsOk Go.Proofs.Try.prog := cok_nil
theorem g84Fn (m : Nat) : FnOk Go.Proofs.Try.prog 84 g84tp g84bp (fun {α} => g84K (g84 (α := α) m)) :=
  fn_ok (tab := tab) (h := g84h m) (fn := Go.Proofs.Try.f84) (F := fun {α} => g84K (g84 (α := α) m)) tabOk (g84Calls m) mixed (by kernel_rfl) (by kernel_rfl) (fun c hc => by
    rw [bodyOf_some hc]
    exact loopsOk_of _ (fun p hp => by rw [show loopsOf (bodyOf Go.Proofs.Try.f84) = [] by kernel_rfl] at hp; cases hp))
    (fun α ls k => g84Main ls k)
theorem g84Ok (m : Nat) : RowOk Go.Proofs.Try.prog 84 (fun {α} => rowK g84tp g84bp (g84K (g84 (α := α) m))) := row_of (g84Fn m)

/-! ### g42: impl.PowerWide -/
def g42l0b {α : Type} (G_g78 : {α : Type} → Bool → (List Int) → Bool → (List Int) → Bool → (Bool → (List Int) → Bool → Option α) → Option α)  (c938 : Bool) (a939 : List Int) (c940 : Bool) (a941 : List Int) (k950 : Bool → Bool → (List Int) → Option α) (r951 : Int → Bool → Bool → (List Int) → Option α) (v937 : Int) (c942 : Bool) (c943 : Bool) (a944 : List Int) : Option α :=
  cond (decide (v937 > (0 : Int)))
   (
    G_g78 c943 a944 c938 a939 c942
      (fun b946 l947 b948 =>
        r951 (IntKind.wrap .i64 (v937 - (1 : Int))) b948 b946 l947))
   (
    k950 c942 c943 a944)
def g42l0 {α : Type} (G_g78 : {α : Type} → Bool → (List Int) → Bool → (List Int) → Bool → (Bool → (List Int) → Bool → Option α) → Option α)  (c938 : Bool) (a939 : List Int) (c940 : Bool) (a941 : List Int) (k950 : Bool → Bool → (List Int) → Option α) : Nat → Int → Bool → Bool → (List Int) → Option α
  | 0 => fun _ _ _ _ => none
  | m + 1 => fun v937 c942 c943 a944 => g42l0b G_g78 c938 a939 c940 a941 k950 (g42l0 G_g78 c938 a939 c940 a941 k950 m) v937 c942 c943 a944
def g42l0M {α : Type} (m : Nat) : Bool → (List Int) → Bool → (List Int) → (Bool → Bool → (List Int) → Option α) → Int → Bool → Bool → (List Int) → Option α :=
  fun c938 a939 c940 a941 k950 v937 c942 c943 a944 => g42l0 (g78 m) c938 a939 c940 a941 k950 m v937 c942 c943 a944
def g42l0D : LoopD := { n := 29, sl := [1, 2, 4, 6, 7], bl := [1002, 1004, 1006, 1007], tp := [(.vl (.sv (.int .i64))), (.vl (.sv (.ptr 1002 0))), (.vl (.sv (.ptr 1004 0))), (.vl (.sv (.ptr 1006 0))), (.vl (.sv (.ptr 1007 0)))], bp := [(true, [(.one .bool), (.seq (.int .u32) 6)]), (true, [(.one .bool), (.seq (.int .u32) 6)]), (true, [(.one .bool)]), (true, [(.one .bool), (.seq (.int .u32) 6)])], xs := [(2, [4, 6, 7], [1004, 1006, 1007])] }
def g42l0K {α : Type} (L : Bool → (List Int) → Bool → (List Int) → (Bool → Bool → (List Int) → Option α) → Int → Bool → Bool → (List Int) → Option α) (ls : List Lf) (k : Ex → St → Option α) : Option α :=
  L (lf ls 1).bool ((lf ls 2).lst (.int .u32)) (lf ls 3).bool ((lf ls 4).lst (.int .u32))
    (fun y2 y3 y4 => k .normal (mkSt 29 [4, 6, 7] [(.vl (.sv (.ptr 1004 0))), (.vl (.sv (.ptr 1006 0))), (.vl (.sv (.ptr 1007 0)))] [1004, 1006, 1007] [(true, [(.one (.bool (lf ls 3).bool)), (.seq (.int .u32) 6 ((lf ls 4).lst (.int .u32)))]), (true, [(.one (.bool y2))]), (true, [(.one (.bool y3)), (.seq (.int .u32) 6 y4)])]))
    (lf ls 0).int (lf ls 5).bool (lf ls 6).bool ((lf ls 7).lst (.int .u32))
def g42b {α : Type} (G_g24 : {α : Type} → Bool → (List Int) → (Bool → Option α) → Option α) (G_g84 : {α : Type} → Int → Int → Int → (Bool → Option α) → Option α) (G_g26 : {α : Type} → Int → (Bool → (List Int) → Option α) → Option α) (G_g78 : {α : Type} → Bool → (List Int) → Bool → (List Int) → Bool → (Bool → (List Int) → Bool → Option α) → Option α) (G_g74 : {α : Type} → Bool → (List Int) → Bool → (Bool → (List Int) → Int → Option α) → Option α) (L_g42l0 : {α : Type} → Bool → (List Int) → Bool → (List Int) → (Bool → Bool → (List Int) → Option α) → Int → Bool → Bool → (List Int) → Option α) (q922 : Bool) (u923 : List Int) (p924 : Int) (k958 : Bool → (List Int) → Int → Option α) : Option α :=
  G_g24 q922 u923
    (fun b925 =>
      cond (!b925)
       (
        k958 false [0, 0, 0, 0, 0, 0] (1 : Int))
       (
        G_g84 p924 (0 : Int) (191 : Int)
          (fun b933 =>
            cond (!b933)
             (
              k958 false [0, 0, 0, 0, 0, 0] (2 : Int))
             (
              G_g26 (1 : Int)
                (fun b935 l936 =>
                  L_g42l0 q922 u923 false [0, 0, 0, 0, 0, 0]
                    (fun b952 b953 l954 =>
                      G_g74 b953 l954 b952
                        (fun b955 l956 x957 =>
                          k958 b955 l956 x957))
                    p924 false b935 l936)))))
def g42 {α : Type} (m : Nat) : Bool → (List Int) → Int → (Bool → (List Int) → Int → Option α) → Option α :=
  g42b (g24 m) (g84 m) (g26 m) (g78 m) (g74 m) (g42l0M m)
def g42tp : List TP := [(.vl (.agg [(.one .bool), (.seq (.int .u32) 6)])), (.vl (.sv (.int .i64)))]
def g42bp : List BP := []
def g42K {α : Type} (G : Bool → (List Int) → Int → (Bool → (List Int) → Int → Option α) → Option α) (ls : List Lf) (k : TV → List (List Seg) → List (List Seg) → Option α) : Option α :=
  G (lf ls 0).bool ((lf ls 1).lst (.int .u32)) (lf ls 2).int
    (fun y0 y1 y2 => k (.tup [(.agg [(.one (.bool y0)), (.seq (.int .u32) 6 y1)]), (.sv (.int .i64 y2))]) [] [])
def g42hd (G_g24 : {α : Type} → Bool → (List Int) → (Bool → Option α) → Option α) (G_g84 : {α : Type} → Int → Int → Int → (Bool → Option α) → Option α) (G_g26 : {α : Type} → Int → (Bool → (List Int) → Option α) → Option α) (G_g78 : {α : Type} → Bool → (List Int) → Bool → (List Int) → Bool → (Bool → (List Int) → Bool → Option α) → Option α) (G_g74 : {α : Type} → Bool → (List Int) → Bool → (Bool → (List Int) → Int → Option α) → Option α) (L_g42l0 : {α : Type} → Bool → (List Int) → Bool → (List Int) → (Bool → Bool → (List Int) → Option α) → Int → Bool → Bool → (List Int) → Option α) : Hd where
  call := fun f args Bs k => cond (Nat.beq f 24) (rowK g24tp g24bp (g24K G_g24) args Bs k) (cond (Nat.beq f 84) (rowK g84tp g84bp (g84K G_g84) args Bs k) (cond (Nat.beq f 26) (rowK g26tp g26bp (g26K G_g26) args Bs k) (cond (Nat.beq f 78) (rowK g78tp g78bp (g78K G_g78) args Bs k) (cond (Nat.beq f 74) (rowK g74tp g74bp (g74K G_g74) args Bs k) (none)))))
  loop := fun id st k => cond (Nat.beq id 0) (loopH g42l0D (g42l0K L_g42l0) st k) (none)
  ro := fun f => cond (Nat.beq f 74) [0] ([])
def g42h (m : Nat) : Hd := g42hd (g24 m) (g84 m) (g26 m) (g78 m) (g74 m) (g42l0M m)
theorem g42l0Step (G_g24 : {α : Type} → Bool → (List Int) → (Bool → Option α) → Option α) (G_g84 : {α : Type} → Int → Int → Int → (Bool → Option α) → Option α) (G_g26 : {α : Type} → Int → (Bool → (List Int) → Option α) → Option α) (G_g78 : {α : Type} → Bool → (List Int) → Bool → (List Int) → Bool → (Bool → (List Int) → Bool → Option α) → Option α) (G_g74 : {α : Type} → Bool → (List Int) → Bool → (Bool → (List Int) → Int → Option α) → Option α) (L_g42l0 : {α : Type} → Bool → (List Int) → Bool → (List Int) → (Bool → Bool → (List Int) → Option α) → Int → Bool → Bool → (List Int) → Option α) {α : Type} (L : Bool → (List Int) → Bool → (List Int) → (Bool → Bool → (List Int) → Option α) → Int → Bool → Bool → (List Int) → Option α) (ls : List Lf) (k : Ex → St → Option α) :
    g42l0K (fun c938 a939 c940 a941 k950 v937 c942 c943 a944 => g42l0b G_g78 c938 a939 c940 a941 k950 (L c938 a939 c940 a941 k950) v937 c942 c943 a944) ls k = ev tab (g42hd G_g24 G_g84 G_g26 G_g78 G_g74 L_g42l0) (bodyAt Go.Proofs.Try.f42 0) (atHead g42l0D ls) (loopK g42l0D 0 (loopH g42l0D (g42l0K L)) k) := by kernel_rfl
theorem g42Main (G_g24 : {α : Type} → Bool → (List Int) → (Bool → Option α) → Option α) (G_g84 : {α : Type} → Int → Int → Int → (Bool → Option α) → Option α) (G_g26 : {α : Type} → Int → (Bool → (List Int) → Option α) → Option α) (G_g78 : {α : Type} → Bool → (List Int) → Bool → (List Int) → Bool → (Bool → (List Int) → Bool → Option α) → Option α) (G_g74 : {α : Type} → Bool → (List Int) → Bool → (Bool → (List Int) → Int → Option α) → Option α) (L_g42l0 : {α : Type} → Bool → (List Int) → Bool → (List Int) → (Bool → Bool → (List Int) → Option α) → Int → Bool → Bool → (List Int) → Option α) {α : Type} (ls : List Lf) (k : TV → List (List Seg) → List (List Seg) → Option α) :
    g42K (g42b G_g24 G_g84 G_g26 G_g78 G_g74 L_g42l0) ls k = evFun tab (g42hd G_g24 G_g84 G_g26 G_g78 G_g74 L_g42l0) Go.Proofs.Try.f42 (fillT g42tp ls).1 (fillB g42bp (fillT g42tp ls).2).1 k := by kernel_rfl
theorem g42Calls (m : Nat) : (g42h m).CallsOk Go.Proofs.Try.prog := (cok_cons (g24Ok m) (cok_cons (g84Ok m) (cok_cons (g26Ok m) (cok_cons (g78Ok m) (cok_cons (g74Ok m) cok_nil)))))
theorem g42l0Ok (m : Nat) (α : Type) (st : St) (k : Ex → St → Option α) (r : α) (h : (g42h m).loop 0 st k = some r) :
    ∃ e st', k e st' = some r ∧ CodeS Go.Proofs.Try.prog (.block 0 (.loop (bodyAt Go.Proofs.Try.f42 0))) st e st' :=
  loop_ok (tab := tab) (h := g42h m) (F := fun n ls k => g42l0K (fun c938 a939 c940 a941 k950 v937 c942 c943 a944 => g42l0 (g78 m) c938 a939 c940 a941 k950 n v937 c942 c943 a944) ls k) tabOk (g42Calls m) mixed (loopsOk_of _ (fun p hp => by rw [show loopsOf (bodyAt Go.Proofs.Try.f42 0) = [] by kernel_rfl] at hp; cases hp))
    (fun _ _ => rfl) (fun n ls k => g42l0Step (g24 m) (g84 m) (g26 m) (g78 m) (g74 m) (g42l0M m) (fun c938 a939 c940 a941 k950 => g42l0 (g78 m) c938 a939 c940 a941 k950 n) ls k) (n := m) h
theorem g42Fn (m : Nat) : FnOk Go.Proofs.Try.prog 42 g42tp g42bp (fun {α} => g42K (g42 (α := α) m)) :=
  fn_ok (tab := tab) (h := g42h m) (fn := Go.Proofs.Try.f42) (F := fun {α} => g42K (g42 (α := α) m)) tabOk (g42Calls m) mixed (by kernel_rfl) (by kernel_rfl) (fun c hc => by
    rw [bodyOf_some hc]
    exact loopsOk_of _ (fun p hp => by
    rw [show loopsOf (bodyOf Go.Proofs.Try.f42) = [(0, bodyAt Go.Proofs.Try.f42 0)] by kernel_rfl] at hp
    simp only [List.mem_cons, List.not_mem_nil, or_false] at hp
    rcases hp with rfl
    exact g42l0Ok m))
    (fun α ls k => g42Main (g24 m) (g84 m) (g26 m) (g78 m) (g74 m) (g42l0M m) ls k)
theorem g42Ok (m : Nat) : RowOk Go.Proofs.Try.prog 42 (fun {α} => rowK g42tp g42bp (g42K (g42 (α := α) m))) := row_of (g42Fn m)

/-! ### g12: laws.FnExactPowerWide -/
def g12b {α : Type} (G_g23 : {α : Type} → Bool → (List Int) → ((List Int) → Option α) → Option α) (G_g56 : {α : Type} → Bool → (List Int) → Int → (Bool → (List Int) → Int → Option α) → Option α) (G_g42 : {α : Type} → Bool → (List Int) → Int → (Bool → (List Int) → Int → Option α) → Option α) (G_g27 : {α : Type} → Bool → (List Int) → Bool → (List Int) → (Bool → Option α) → Option α)  (q874 : Bool) (u875 : List Int) (p876 : Int) (k965 : Bool → Option α) : Option α :=
  G_g23 q874 u875
    (fun l877 =>
      G_g56 q874 l877 p876
        (fun b918 l919 x920 =>
          G_g23 q874 u875
            (fun l921 =>
              G_g42 q874 l921 p876
                (fun b959 l960 x961 =>
                  G_g27 b959 l960 b918 l919
                    (fun b962 =>
                      cond (!b962)
                       (
                        k965 false)
                       (
                        cond (x961 != x920)
                         (
                          k965 false)
                         (
                          k965 true)))))))
def g12 {α : Type} (m : Nat) : Bool → (List Int) → Int → (Bool → Option α) → Option α :=
  g12b (g23 m) (g56 m) (g42 m) (g27 m)
def g12tp : List TP := [(.vl (.agg [(.one .bool), (.seq (.int .u32) 6)])), (.vl (.sv (.int .i64)))]
def g12bp : List BP := []
def g12K {α : Type} (G : Bool → (List Int) → Int → (Bool → Option α) → Option α) (ls : List Lf) (k : TV → List (List Seg) → List (List Seg) → Option α) : Option α :=
  G (lf ls 0).bool ((lf ls 1).lst (.int .u32)) (lf ls 2).int
    (fun y0 => k (.vl (.sv (.bool y0))) [] [])
def g12hd (G_g23 : {α : Type} → Bool → (List Int) → ((List Int) → Option α) → Option α) (G_g56 : {α : Type} → Bool → (List Int) → Int → (Bool → (List Int) → Int → Option α) → Option α) (G_g42 : {α : Type} → Bool → (List Int) → Int → (Bool → (List Int) → Int → Option α) → Option α) (G_g27 : {α : Type} → Bool → (List Int) → Bool → (List Int) → (Bool → Option α) → Option α)  : Hd where
  call := fun f args Bs k => cond (Nat.beq f 23) (rowK g23tp g23bp (g23K G_g23) args Bs k) (cond (Nat.beq f 56) (rowK g56tp g56bp (g56K G_g56) args Bs k) (cond (Nat.beq f 42) (rowK g42tp g42bp (g42K G_g42) args Bs k) (cond (Nat.beq f 27) (rowK g27tp g27bp (g27K G_g27) args Bs k) (none))))
  loop := fun id st k => none
  ro := fun f => []
def g12h (m : Nat) : Hd := g12hd (g23 m) (g56 m) (g42 m) (g27 m)
theorem g12Main (G_g23 : {α : Type} → Bool → (List Int) → ((List Int) → Option α) → Option α) (G_g56 : {α : Type} → Bool → (List Int) → Int → (Bool → (List Int) → Int → Option α) → Option α) (G_g42 : {α : Type} → Bool → (List Int) → Int → (Bool → (List Int) → Int → Option α) → Option α) (G_g27 : {α : Type} → Bool → (List Int) → Bool → (List Int) → (Bool → Option α) → Option α)  {α : Type} (ls : List Lf) (k : TV → List (List Seg) → List (List Seg) → Option α) :
    g12K (g12b G_g23 G_g56 G_g42 G_g27) ls k = evFun tab (g12hd G_g23 G_g56 G_g42 G_g27) Go.Proofs.Try.f12 (fillT g12tp ls).1 (fillB g12bp (fillT g12tp ls).2).1 k := by kernel_rfl
theorem g12Calls (m : Nat) : (g12h m).CallsOk Go.Proofs.Try.prog := (cok_cons (g23Ok m) (cok_cons (g56Ok m) (cok_cons (g42Ok m) (cok_cons (g27Ok m) cok_nil))))
theorem g12Fn (m : Nat) : FnOk Go.Proofs.Try.prog 12 g12tp g12bp (fun {α} => g12K (g12 (α := α) m)) :=
  fn_ok (tab := tab) (h := g12h m) (fn := Go.Proofs.Try.f12) (F := fun {α} => g12K (g12 (α := α) m)) tabOk (g12Calls m) mixed (by kernel_rfl) (by kernel_rfl) (fun c hc => by
    rw [bodyOf_some hc]
    exact loopsOk_of _ (fun p hp => by rw [show loopsOf (bodyOf Go.Proofs.Try.f12) = [] by kernel_rfl] at hp; cases hp))
    (fun α ls k => g12Main (g23 m) (g56 m) (g42 m) (g27 m) ls k)
theorem g12Ok (m : Nat) : RowOk Go.Proofs.Try.prog 12 (fun {α} => rowK g12tp g12bp (g12K (g12 (α := α) m))) := row_of (g12Fn m)
end Go.Proofs.Ytcccndkeaichcaa.Sx
