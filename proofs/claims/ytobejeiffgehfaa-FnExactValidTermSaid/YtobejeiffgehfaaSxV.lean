/- Functions. Printed by our own sx.py. -/
import Derived.Test.YtobejeiffgehfaaSxV0
namespace Go.Proofs.Ytobejeiffgehfaa.Sx
open Go
set_option linter.unusedVariables false
set_option maxRecDepth 100000
/-! ### g86: (impl.size).times -/
def g86l2b {α : Type}   (v763 : Int) (v764 : Int) (a766 : List Int) (v767 : Int) (a768 : List Int) (a770 : List Int) (a771 : List Int) (k788 : Int → (List Int) → Option α) (r789 : Int → Int → (List Int) → Option α) (v765 : Int) (v769 : Int) (a772 : List Int) : Option α :=
  cond (decide (v769 < (6 : Int)))
   (
    if 0 ≤ v769 ∧ v769 < (6 : Nat) then
      let x778 : Int := IntKind.wrap .i64 (v763 + v769)
      if 0 ≤ x778 ∧ x778 < (12 : Nat) then
        if x778.toNat < 12 then
          let x782 : Int := IntKind.wrap .u64 (v765 + (IntKind.wrap .u64 ((IntKind.wrap .u64 ((IntKind.wrap .u64 v764) * (IntKind.wrap .u64 (List.getD a768 v769.toNat 0)))) + (IntKind.wrap .u64 (List.getD a772 x778.toNat 0)))))
          let x783 : Int := IntKind.wrap .i64 (v763 + v769)
          if 0 ≤ x783 ∧ x783 < (12 : Nat) then
            if x783.toNat < 12 then
              r789 (Int.fdiv x782 (2 ^ 32)) (IntKind.wrap .i64 (v769 + (1 : Int))) (List.set a772 (x783.toNat) (IntKind.wrap .u32 x782))
            else
              none
          else
            none
        else
          none
      else
        none
    else
      none)
   (
    k788 v765 a772)
def g86l2 {α : Type}   (v763 : Int) (v764 : Int) (a766 : List Int) (v767 : Int) (a768 : List Int) (a770 : List Int) (a771 : List Int) (k788 : Int → (List Int) → Option α) : Nat → Int → Int → (List Int) → Option α
  | 0 => fun _ _ _ => none
  | m + 1 => fun v765 v769 a772 => g86l2b v763 v764 a766 v767 a768 a770 a771 k788 (g86l2 v763 v764 a766 v767 a768 a770 a771 k788 m) v765 v769 a772
def g86l2M {α : Type} (m : Nat) : Int → Int → (List Int) → Int → (List Int) → (List Int) → (List Int) → (Int → (List Int) → Option α) → Int → Int → (List Int) → Option α :=
  fun v763 v764 a766 v767 a768 a770 a771 k788 v765 v769 a772 => g86l2 v763 v764 a766 v767 a768 a770 a771 k788 m v765 v769 a772
def g86l2D : LoopD := { n := 66, sl := [3, 4, 6, 7, 8, 9, 14, 15, 19, 20], bl := [1003, 1004, 1006], tp := [(.vl (.sv (.ptr 1003 0))), (.vl (.sv (.ptr 1004 0))), (.vl (.sv (.ptr 1006 0))), (.vl (.sv (.int .i64))), (.vl (.sv (.int .u32))), (.vl (.sv (.int .u64))), (.vl (.agg [(.seq (.int .u32) 6)])), (.vl (.sv (.int .i64))), (.vl (.agg [(.seq (.int .u32) 6)])), (.vl (.sv (.int .i64)))], bp := [(true, [(.seq (.int .u32) 6)]), (true, [(.seq (.int .u32) 6)]), (true, [(.seq (.int .u32) 12)])], xs := [(4, [3, 4, 6, 7, 9, 14, 15], [1003, 1004, 1006])] }
def g86l2K {α : Type} (L : Int → Int → (List Int) → Int → (List Int) → (List Int) → (List Int) → (Int → (List Int) → Option α) → Int → Int → (List Int) → Option α) (ls : List Lf) (k : Ex → St → Option α) : Option α :=
  L (lf ls 0).int (lf ls 1).int ((lf ls 3).lst (.int .u32)) (lf ls 4).int ((lf ls 5).lst (.int .u32)) ((lf ls 7).lst (.int .u32)) ((lf ls 8).lst (.int .u32))
    (fun y1 y6 => k .normal (mkSt 66 [3, 4, 6, 7, 9, 14, 15] [(.vl (.sv (.ptr 1003 0))), (.vl (.sv (.ptr 1004 0))), (.vl (.sv (.ptr 1006 0))), (.vl (.sv (.int .i64 (lf ls 0).int))), (.vl (.sv (.int .u64 y1))), (.vl (.agg [(.seq (.int .u32) 6 ((lf ls 3).lst (.int .u32)))])), (.vl (.sv (.int .i64 (lf ls 4).int)))] [1003, 1004, 1006] [(true, [(.seq (.int .u32) 6 ((lf ls 7).lst (.int .u32)))]), (true, [(.seq (.int .u32) 6 ((lf ls 8).lst (.int .u32)))]), (true, [(.seq (.int .u32) 12 y6)])]))
    (lf ls 2).int (lf ls 6).int ((lf ls 9).lst (.int .u32))
def g86l0b {α : Type}  (L_g86l2 : {α : Type} → Int → Int → (List Int) → Int → (List Int) → (List Int) → (List Int) → (Int → (List Int) → Option α) → Int → Int → (List Int) → Option α) (a756 : List Int) (a758 : List Int) (a759 : List Int) (k796 : (List Int) → Option α) (r797 : Int → (List Int) → Option α) (v757 : Int) (a760 : List Int) : Option α :=
  cond (decide (v757 < (6 : Int)))
   (
    if 0 ≤ v757 ∧ v757 < (6 : Nat) then
      L_g86l2 v757 (List.getD a756 v757.toNat 0) a756 v757 a758 a758 a759
        (fun x790 l791 =>
          let x792 : Int := IntKind.wrap .i64 (v757 + (6 : Int))
          if 0 ≤ x792 ∧ x792 < (12 : Nat) then
            if x792.toNat < 12 then
              r797 (IntKind.wrap .i64 (v757 + (1 : Int))) (List.set l791 (x792.toNat) (IntKind.wrap .u32 x790))
            else
              none
          else
            none)
        (0 : Int) (0 : Int) a760
    else
      none)
   (
    k796 a760)
def g86l0 {α : Type}  (L_g86l2 : {α : Type} → Int → Int → (List Int) → Int → (List Int) → (List Int) → (List Int) → (Int → (List Int) → Option α) → Int → Int → (List Int) → Option α) (a756 : List Int) (a758 : List Int) (a759 : List Int) (k796 : (List Int) → Option α) : Nat → Int → (List Int) → Option α
  | 0 => fun _ _ => none
  | m + 1 => fun v757 a760 => g86l0b L_g86l2 a756 a758 a759 k796 (g86l0 L_g86l2 a756 a758 a759 k796 m) v757 a760
def g86l0M {α : Type} (m : Nat) : (List Int) → (List Int) → (List Int) → ((List Int) → Option α) → Int → (List Int) → Option α :=
  fun a756 a758 a759 k796 v757 a760 => g86l0 (g86l2M m) a756 a758 a759 k796 m v757 a760
def g86l0D : LoopD := { n := 66, sl := [3, 4, 6, 14, 15], bl := [1003, 1004, 1006], tp := [(.vl (.sv (.ptr 1003 0))), (.vl (.sv (.ptr 1004 0))), (.vl (.sv (.ptr 1006 0))), (.vl (.agg [(.seq (.int .u32) 6)])), (.vl (.sv (.int .i64)))], bp := [(true, [(.seq (.int .u32) 6)]), (true, [(.seq (.int .u32) 6)]), (true, [(.seq (.int .u32) 12)])], xs := [(2, [4, 6], [1004, 1006])] }
def g86l0K {α : Type} (L : (List Int) → (List Int) → (List Int) → ((List Int) → Option α) → Int → (List Int) → Option α) (ls : List Lf) (k : Ex → St → Option α) : Option α :=
  L ((lf ls 0).lst (.int .u32)) ((lf ls 2).lst (.int .u32)) ((lf ls 3).lst (.int .u32))
    (fun y1 => k .normal (mkSt 66 [4, 6] [(.vl (.sv (.ptr 1004 0))), (.vl (.sv (.ptr 1006 0)))] [1004, 1006] [(true, [(.seq (.int .u32) 6 ((lf ls 3).lst (.int .u32)))]), (true, [(.seq (.int .u32) 12 y1)])]))
    (lf ls 1).int ((lf ls 4).lst (.int .u32))
def g86l4b {α : Type}   (m799 : Nat) (m800 : Nat) (m801 : Nat) (v802 : Int) (a804 : List Int) (a805 : List Int) (k810 : (List Int) → Option α) (k811 : Option α) (r812 : Int → Option α) (v803 : Int) : Option α :=
  cond (decide (v803 < v802))
   (
    if 0 ≤ v803 ∧ v803 < (m800 : Nat) then
      if (m799 + v803.toNat) < 12 then
        cond ((List.getD a805 (m799 + v803.toNat) 0) != (0 : Int))
         (
          k810 [0, 0, 0, 0, 0, 0])
         (
          r812 (IntKind.wrap .i64 (v803 + (1 : Int))))
      else
        none
    else
      none)
   (
    k811)
def g86l4 {α : Type}   (m799 : Nat) (m800 : Nat) (m801 : Nat) (v802 : Int) (a804 : List Int) (a805 : List Int) (k810 : (List Int) → Option α) (k811 : Option α) : Nat → Int → Option α
  | 0 => fun _ => none
  | m + 1 => fun v803 => g86l4b m799 m800 m801 v802 a804 a805 k810 k811 (g86l4 m799 m800 m801 v802 a804 a805 k810 k811 m) v803
def g86l4M {α : Type} (m : Nat) : Nat → Nat → Nat → Int → (List Int) → (List Int) → ((List Int) → Option α) → (Option α) → Int → Option α :=
  fun m799 m800 m801 v802 a804 a805 k810 k811 v803 => g86l4 m799 m800 m801 v802 a804 a805 k810 k811 m v803
def g86l4D : LoopD := { n := 66, sl := [4, 6, 53, 54, 55], bl := [1004, 1006], tp := [(.vl (.sv (.ptr 1004 0))), (.vl (.sv (.ptr 1006 0))), (.vl (.sv (.slc 1006 0 1))), (.vl (.sv (.int .i64))), (.vl (.sv (.int .i64)))], bp := [(true, [(.seq (.int .u32) 6)]), (true, [(.seq (.int .u32) 12)])], xs := [(1, [4, 5], [1004]), (6, [4, 6], [1004, 1006])] }
def g86l4K {α : Type} (L : Nat → Nat → Nat → Int → (List Int) → (List Int) → ((List Int) → Option α) → (Option α) → Int → Option α) (ls : List Lf) (k : Ex → St → Option α) : Option α :=
  L (lf ls 0).nat (lf ls 1).nat (lf ls 2).nat (lf ls 3).int ((lf ls 5).lst (.int .u32)) ((lf ls 6).lst (.int .u32))
    (fun y1 => k .ret (mkSt 66 [4, 5] [(.vl (.sv (.ptr 1004 0))), (.vl (.sv (.bool true)))] [1004] [(true, [(.seq (.int .u32) 6 y1)])]))
    (k .normal (mkSt 66 [4, 6] [(.vl (.sv (.ptr 1004 0))), (.vl (.sv (.ptr 1006 0)))] [1004, 1006] [(true, [(.seq (.int .u32) 6 ((lf ls 5).lst (.int .u32)))]), (true, [(.seq (.int .u32) 12 ((lf ls 6).lst (.int .u32)))])]))
    (lf ls 4).int
def g86b {α : Type}  (L_g86l2 : {α : Type} → Int → Int → (List Int) → Int → (List Int) → (List Int) → (List Int) → (Int → (List Int) → Option α) → Int → Int → (List Int) → Option α) (L_g86l0 : {α : Type} → (List Int) → (List Int) → (List Int) → ((List Int) → Option α) → Int → (List Int) → Option α) (L_g86l4 : {α : Type} → Nat → Nat → Nat → Int → (List Int) → (List Int) → ((List Int) → Option α) → (Option α) → Int → Option α) (u754 : List Int) (u755 : List Int) (k815 : (List Int) → Bool → Option α) : Option α :=
  L_g86l0 u754 u755 [0, 0, 0, 0, 0, 0]
    (fun l798 =>
      L_g86l4 6 6 6 (6 : Int) [0, 0, 0, 0, 0, 0] l798
        (fun l813 =>
          k815 l813 true)
        (
          k815 (List.take 6 (List.drop 0 l798)) false)
        (0 : Int))
    (0 : Int) [0, 0, 0, 0, 0, 0, 0, 0, 0, 0, 0, 0]
def g86 {α : Type} (m : Nat) : (List Int) → (List Int) → ((List Int) → Bool → Option α) → Option α :=
  g86b (g86l2M m) (g86l0M m) (g86l4M m)
def g86tp : List TP := [(.vl (.agg [(.seq (.int .u32) 6)])), (.vl (.agg [(.seq (.int .u32) 6)]))]
def g86bp : List BP := []
def g86K {α : Type} (G : (List Int) → (List Int) → ((List Int) → Bool → Option α) → Option α) (ls : List Lf) (k : TV → List (List Seg) → List (List Seg) → Option α) : Option α :=
  G ((lf ls 0).lst (.int .u32)) ((lf ls 1).lst (.int .u32))
    (fun y0 y1 => k (.tup [(.agg [(.seq (.int .u32) 6 y0)]), (.sv (.bool y1))]) [] [])
def g86hd  (L_g86l2 : {α : Type} → Int → Int → (List Int) → Int → (List Int) → (List Int) → (List Int) → (Int → (List Int) → Option α) → Int → Int → (List Int) → Option α) (L_g86l0 : {α : Type} → (List Int) → (List Int) → (List Int) → ((List Int) → Option α) → Int → (List Int) → Option α) (L_g86l4 : {α : Type} → Nat → Nat → Nat → Int → (List Int) → (List Int) → ((List Int) → Option α) → (Option α) → Int → Option α) : Hd where
  call := fun f args Bs k => none
  loop := fun id st k => cond (Nat.beq id 2) (loopH g86l2D (g86l2K L_g86l2) st k) (cond (Nat.beq id 0) (loopH g86l0D (g86l0K L_g86l0) st k) (cond (Nat.beq id 4) (loopH g86l4D (g86l4K L_g86l4) st k) (none)))
  ro := fun f => []
def g86h (m : Nat) : Hd := g86hd (g86l2M m) (g86l0M m) (g86l4M m)
theorem g86l2Step  (L_g86l2 : {α : Type} → Int → Int → (List Int) → Int → (List Int) → (List Int) → (List Int) → (Int → (List Int) → Option α) → Int → Int → (List Int) → Option α) (L_g86l0 : {α : Type} → (List Int) → (List Int) → (List Int) → ((List Int) → Option α) → Int → (List Int) → Option α) (L_g86l4 : {α : Type} → Nat → Nat → Nat → Int → (List Int) → (List Int) → ((List Int) → Option α) → (Option α) → Int → Option α) {α : Type} (L : Int → Int → (List Int) → Int → (List Int) → (List Int) → (List Int) → (Int → (List Int) → Option α) → Int → Int → (List Int) → Option α) (ls : List Lf) (k : Ex → St → Option α) :
    g86l2K (fun v763 v764 a766 v767 a768 a770 a771 k788 v765 v769 a772 => g86l2b v763 v764 a766 v767 a768 a770 a771 k788 (L v763 v764 a766 v767 a768 a770 a771 k788) v765 v769 a772) ls k = ev tab (g86hd L_g86l2 L_g86l0 L_g86l4) (bodyAt Go.Proofs.Try.f86 2) (atHead g86l2D ls) (loopK g86l2D 2 (loopH g86l2D (g86l2K L)) k) := by kernel_rfl
theorem g86l0Step  (L_g86l2 : {α : Type} → Int → Int → (List Int) → Int → (List Int) → (List Int) → (List Int) → (Int → (List Int) → Option α) → Int → Int → (List Int) → Option α) (L_g86l0 : {α : Type} → (List Int) → (List Int) → (List Int) → ((List Int) → Option α) → Int → (List Int) → Option α) (L_g86l4 : {α : Type} → Nat → Nat → Nat → Int → (List Int) → (List Int) → ((List Int) → Option α) → (Option α) → Int → Option α) {α : Type} (L : (List Int) → (List Int) → (List Int) → ((List Int) → Option α) → Int → (List Int) → Option α) (ls : List Lf) (k : Ex → St → Option α) :
    g86l0K (fun a756 a758 a759 k796 v757 a760 => g86l0b L_g86l2 a756 a758 a759 k796 (L a756 a758 a759 k796) v757 a760) ls k = ev tab (g86hd L_g86l2 L_g86l0 L_g86l4) (bodyAt Go.Proofs.Try.f86 0) (atHead g86l0D ls) (loopK g86l0D 0 (loopH g86l0D (g86l0K L)) k) := by kernel_rfl
theorem g86l4Step  (L_g86l2 : {α : Type} → Int → Int → (List Int) → Int → (List Int) → (List Int) → (List Int) → (Int → (List Int) → Option α) → Int → Int → (List Int) → Option α) (L_g86l0 : {α : Type} → (List Int) → (List Int) → (List Int) → ((List Int) → Option α) → Int → (List Int) → Option α) (L_g86l4 : {α : Type} → Nat → Nat → Nat → Int → (List Int) → (List Int) → ((List Int) → Option α) → (Option α) → Int → Option α) {α : Type} (L : Nat → Nat → Nat → Int → (List Int) → (List Int) → ((List Int) → Option α) → (Option α) → Int → Option α) (ls : List Lf) (k : Ex → St → Option α) :
    g86l4K (fun m799 m800 m801 v802 a804 a805 k810 k811 v803 => g86l4b m799 m800 m801 v802 a804 a805 k810 k811 (L m799 m800 m801 v802 a804 a805 k810 k811) v803) ls k = ev tab (g86hd L_g86l2 L_g86l0 L_g86l4) (bodyAt Go.Proofs.Try.f86 4) (atHead g86l4D ls) (loopK g86l4D 4 (loopH g86l4D (g86l4K L)) k) := by kernel_rfl
theorem g86Main  (L_g86l2 : {α : Type} → Int → Int → (List Int) → Int → (List Int) → (List Int) → (List Int) → (Int → (List Int) → Option α) → Int → Int → (List Int) → Option α) (L_g86l0 : {α : Type} → (List Int) → (List Int) → (List Int) → ((List Int) → Option α) → Int → (List Int) → Option α) (L_g86l4 : {α : Type} → Nat → Nat → Nat → Int → (List Int) → (List Int) → ((List Int) → Option α) → (Option α) → Int → Option α) {α : Type} (ls : List Lf) (k : TV → List (List Seg) → List (List Seg) → Option α) :
    g86K (g86b L_g86l2 L_g86l0 L_g86l4) ls k = evFun tab (g86hd L_g86l2 L_g86l0 L_g86l4) Go.Proofs.Try.f86 (fillT g86tp ls).1 (fillB g86bp (fillT g86tp ls).2).1 k := by kernel_rfl
theorem g86Calls (m : Nat) : (g86h m).CallsOk Go.Proofs.Try.prog := cok_nil
theorem g86l2Ok (m : Nat) (α : Type) (st : St) (k : Ex → St → Option α) (r : α) (h : (g86h m).loop 2 st k = some r) :
    ∃ e st', k e st' = some r ∧ CodeS Go.Proofs.Try.prog (.block 2 (.loop (bodyAt Go.Proofs.Try.f86 2))) st e st' :=
  loop_ok (tab := tab) (h := g86h m) (F := fun n ls k => g86l2K (fun v763 v764 a766 v767 a768 a770 a771 k788 v765 v769 a772 => g86l2 v763 v764 a766 v767 a768 a770 a771 k788 n v765 v769 a772) ls k) tabOk (g86Calls m) mixed (loopsOk_of _ (fun p hp => by rw [show loopsOf (bodyAt Go.Proofs.Try.f86 2) = [] by kernel_rfl] at hp; cases hp))
    (fun _ _ => rfl) (fun n ls k => g86l2Step (g86l2M m) (g86l0M m) (g86l4M m) (fun v763 v764 a766 v767 a768 a770 a771 k788 => g86l2 v763 v764 a766 v767 a768 a770 a771 k788 n) ls k) (n := m) h
theorem g86l0Ok (m : Nat) (α : Type) (st : St) (k : Ex → St → Option α) (r : α) (h : (g86h m).loop 0 st k = some r) :
    ∃ e st', k e st' = some r ∧ CodeS Go.Proofs.Try.prog (.block 0 (.loop (bodyAt Go.Proofs.Try.f86 0))) st e st' :=
  loop_ok (tab := tab) (h := g86h m) (F := fun n ls k => g86l0K (fun a756 a758 a759 k796 v757 a760 => g86l0 (g86l2M m) a756 a758 a759 k796 n v757 a760) ls k) tabOk (g86Calls m) mixed (loopsOk_of _ (fun p hp => by
    rw [show loopsOf (bodyAt Go.Proofs.Try.f86 0) = [(2, bodyAt Go.Proofs.Try.f86 2)] by kernel_rfl] at hp
    simp only [List.mem_cons, List.not_mem_nil, or_false] at hp
    rcases hp with rfl
    exact g86l2Ok m))
    (fun _ _ => rfl) (fun n ls k => g86l0Step (g86l2M m) (g86l0M m) (g86l4M m) (fun a756 a758 a759 k796 => g86l0 (g86l2M m) a756 a758 a759 k796 n) ls k) (n := m) h
theorem g86l4Ok (m : Nat) (α : Type) (st : St) (k : Ex → St → Option α) (r : α) (h : (g86h m).loop 4 st k = some r) :
    ∃ e st', k e st' = some r ∧ CodeS Go.Proofs.Try.prog (.block 4 (.loop (bodyAt Go.Proofs.Try.f86 4))) st e st' :=
  loop_ok (tab := tab) (h := g86h m) (F := fun n ls k => g86l4K (fun m799 m800 m801 v802 a804 a805 k810 k811 v803 => g86l4 m799 m800 m801 v802 a804 a805 k810 k811 n v803) ls k) tabOk (g86Calls m) mixed (loopsOk_of _ (fun p hp => by rw [show loopsOf (bodyAt Go.Proofs.Try.f86 4) = [] by kernel_rfl] at hp; cases hp))
    (fun _ _ => rfl) (fun n ls k => g86l4Step (g86l2M m) (g86l0M m) (g86l4M m) (fun m799 m800 m801 v802 a804 a805 k810 k811 => g86l4 m799 m800 m801 v802 a804 a805 k810 k811 n) ls k) (n := m) h
theorem g86Fn (m : Nat) : FnOk Go.Proofs.Try.prog 86 g86tp g86bp (fun {α} => g86K (g86 (α := α) m)) :=
  fn_ok (tab := tab) (h := g86h m) (fn := Go.Proofs.Try.f86) (F := fun {α} => g86K (g86 (α := α) m)) tabOk (g86Calls m) mixed (by kernel_rfl) (by kernel_rfl) (fun c hc => by
    rw [bodyOf_some hc]
    exact loopsOk_of _ (fun p hp => by
    rw [show loopsOf (bodyOf Go.Proofs.Try.f86) = [(0, bodyAt Go.Proofs.Try.f86 0), (4, bodyAt Go.Proofs.Try.f86 4)] by kernel_rfl] at hp
    simp only [List.mem_cons, List.not_mem_nil, or_false] at hp
    rcases hp with rfl | rfl
    · exact g86l0Ok m
    · exact g86l4Ok m))
    (fun α ls k => g86Main (g86l2M m) (g86l0M m) (g86l4M m) ls k)
theorem g86Ok (m : Nat) : RowOk Go.Proofs.Try.prog 86 (fun {α} => rowK g86tp g86bp (g86K (g86 (α := α) m))) := row_of (g86Fn m)

/-! ### g54: (*impl.calc).mul -/
def g54b {α : Type} (G_g86 : {α : Type} → (List Int) → (List Int) → ((List Int) → Bool → Option α) → Option α) (G_g84 : {α : Type} → Bool → (List Int) → (Bool → Option α) → Option α)  (q749 : Bool) (u750 : List Int) (q751 : Bool) (u752 : List Int) (q753 : Bool) (k822 : Bool → (List Int) → Bool → Option α) : Option α :=
  G_g86 u750 u752
    (fun l816 b817 =>
      cond q753
       (
        G_g84 (!(q749 == q751)) l816
          (fun b819 =>
            k822 b819 l816 true))
       (
        G_g84 (!(q749 == q751)) l816
          (fun b821 =>
            k822 b821 l816 b817)))
def g54 {α : Type} (m : Nat) : Bool → (List Int) → Bool → (List Int) → Bool → (Bool → (List Int) → Bool → Option α) → Option α :=
  g54b (g86 m) (g84 m)
def g54tp : List TP := [(.vl (.sv (.ptr 0 0))), (.vl (.agg [(.one .bool), (.seq (.int .u32) 6)])), (.vl (.agg [(.one .bool), (.seq (.int .u32) 6)]))]
def g54bp : List BP := [(true, [(.one .bool)])]
def g54K {α : Type} (G : Bool → (List Int) → Bool → (List Int) → Bool → (Bool → (List Int) → Bool → Option α) → Option α) (ls : List Lf) (k : TV → List (List Seg) → List (List Seg) → Option α) : Option α :=
  G (lf ls 0).bool ((lf ls 1).lst (.int .u32)) (lf ls 2).bool ((lf ls 3).lst (.int .u32)) (lf ls 4).bool
    (fun y0 y1 y2 => k (.vl (.agg [(.one (.bool y0)), (.seq (.int .u32) 6 y1)])) [[(.one (.bool y2))]] [])
def g54hd (G_g86 : {α : Type} → (List Int) → (List Int) → ((List Int) → Bool → Option α) → Option α) (G_g84 : {α : Type} → Bool → (List Int) → (Bool → Option α) → Option α)  : Hd where
  call := fun f args Bs k => cond (Nat.beq f 86) (rowK g86tp g86bp (g86K G_g86) args Bs k) (cond (Nat.beq f 84) (rowK g84tp g84bp (g84K G_g84) args Bs k) (none))
  loop := fun id st k => none
  ro := fun f => []
def g54h (m : Nat) : Hd := g54hd (g86 m) (g84 m)
theorem g54Main (G_g86 : {α : Type} → (List Int) → (List Int) → ((List Int) → Bool → Option α) → Option α) (G_g84 : {α : Type} → Bool → (List Int) → (Bool → Option α) → Option α)  {α : Type} (ls : List Lf) (k : TV → List (List Seg) → List (List Seg) → Option α) :
    g54K (g54b G_g86 G_g84) ls k = evFun tab (g54hd G_g86 G_g84) Go.Proofs.Try.f54 (fillT g54tp ls).1 (fillB g54bp (fillT g54tp ls).2).1 k := by kernel_rfl
theorem g54Calls (m : Nat) : (g54h m).CallsOk Go.Proofs.Try.prog := (cok_cons (g86Ok m) (cok_cons (g84Ok m) cok_nil))
theorem g54Fn (m : Nat) : FnOk Go.Proofs.Try.prog 54 g54tp g54bp (fun {α} => g54K (g54 (α := α) m)) :=
  fn_ok (tab := tab) (h := g54h m) (fn := Go.Proofs.Try.f54) (F := fun {α} => g54K (g54 (α := α) m)) tabOk (g54Calls m) mixed (by kernel_rfl) (by kernel_rfl) (fun c hc => by
    rw [bodyOf_some hc]
    exact loopsOk_of _ (fun p hp => by rw [show loopsOf (bodyOf Go.Proofs.Try.f54) = [] by kernel_rfl] at hp; cases hp))
    (fun α ls k => g54Main (g86 m) (g84 m) ls k)
theorem g54Ok (m : Nat) : RowOk Go.Proofs.Try.prog 54 (fun {α} => rowK g54tp g54bp (g54K (g54 (α := α) m))) := row_of (g54Fn m)

/-! ### g69: (impl.size).plus -/
def g69l0b {α : Type}   (a840 : List Int) (a841 : List Int) (k853 : Int → (List Int) → Option α) (r854 : Int → Int → (List Int) → Option α) (v837 : Int) (v838 : Int) (a839 : List Int) : Option α :=
  cond (decide (v838 < (6 : Int)))
   (
    if 0 ≤ v838 ∧ v838 < (6 : Nat) then
      if v838.toNat < 6 then
        if 0 ≤ v838 ∧ v838 < (6 : Nat) then
          if v838.toNat < 6 then
            let x848 : Int := IntKind.wrap .u64 (v837 + (IntKind.wrap .u64 ((IntKind.wrap .u64 (List.getD a839 v838.toNat 0)) + (IntKind.wrap .u64 (List.getD a840 v838.toNat 0)))))
            if 0 ≤ v838 ∧ v838 < (6 : Nat) then
              if v838.toNat < 6 then
                r854 (Int.fdiv x848 (2 ^ 32)) (IntKind.wrap .i64 (v838 + (1 : Int))) (List.set a839 (v838.toNat) (IntKind.wrap .u32 x848))
              else
                none
            else
              none
          else
            none
        else
          none
      else
        none
    else
      none)
   (
    k853 v837 a839)
def g69l0 {α : Type}   (a840 : List Int) (a841 : List Int) (k853 : Int → (List Int) → Option α) : Nat → Int → Int → (List Int) → Option α
  | 0 => fun _ _ _ => none
  | m + 1 => fun v837 v838 a839 => g69l0b a840 a841 k853 (g69l0 a840 a841 k853 m) v837 v838 a839
def g69l0M {α : Type} (m : Nat) : (List Int) → (List Int) → (Int → (List Int) → Option α) → Int → Int → (List Int) → Option α :=
  fun a840 a841 k853 v837 v838 a839 => g69l0 a840 a841 k853 m v837 v838 a839
def g69l0D : LoopD := { n := 32, sl := [2, 3, 4, 6, 8], bl := [1002, 1003, 1004], tp := [(.vl (.sv (.ptr 1002 0))), (.vl (.sv (.ptr 1003 0))), (.vl (.sv (.ptr 1004 0))), (.vl (.sv (.int .u64))), (.vl (.sv (.int .i64)))], bp := [(true, [(.seq (.int .u32) 6)]), (true, [(.seq (.int .u32) 6)]), (true, [(.seq (.int .u32) 6)])], xs := [(2, [2, 4, 6], [1002, 1004])] }
def g69l0K {α : Type} (L : (List Int) → (List Int) → (Int → (List Int) → Option α) → Int → Int → (List Int) → Option α) (ls : List Lf) (k : Ex → St → Option α) : Option α :=
  L ((lf ls 3).lst (.int .u32)) ((lf ls 4).lst (.int .u32))
    (fun y0 y1 => k .normal (mkSt 32 [2, 4, 6] [(.vl (.sv (.ptr 1002 0))), (.vl (.sv (.ptr 1004 0))), (.vl (.sv (.int .u64 y0)))] [1002, 1004] [(true, [(.seq (.int .u32) 6 y1)]), (true, [(.seq (.int .u32) 6 ((lf ls 4).lst (.int .u32)))])]))
    (lf ls 0).int (lf ls 1).int ((lf ls 2).lst (.int .u32))
def g69b {α : Type}  (L_g69l0 : {α : Type} → (List Int) → (List Int) → (Int → (List Int) → Option α) → Int → Int → (List Int) → Option α) (u835 : List Int) (u836 : List Int) (k858 : (List Int) → Bool → Option α) : Option α :=
  L_g69l0 u836 [0, 0, 0, 0, 0, 0]
    (fun x855 l856 =>
      k858 l856 (x855 != (0 : Int)))
    (0 : Int) (0 : Int) u835
def g69 {α : Type} (m : Nat) : (List Int) → (List Int) → ((List Int) → Bool → Option α) → Option α :=
  g69b (g69l0M m)
def g69tp : List TP := [(.vl (.agg [(.seq (.int .u32) 6)])), (.vl (.agg [(.seq (.int .u32) 6)]))]
def g69bp : List BP := []
def g69K {α : Type} (G : (List Int) → (List Int) → ((List Int) → Bool → Option α) → Option α) (ls : List Lf) (k : TV → List (List Seg) → List (List Seg) → Option α) : Option α :=
  G ((lf ls 0).lst (.int .u32)) ((lf ls 1).lst (.int .u32))
    (fun y0 y1 => k (.tup [(.agg [(.seq (.int .u32) 6 y0)]), (.sv (.bool y1))]) [] [])
def g69hd  (L_g69l0 : {α : Type} → (List Int) → (List Int) → (Int → (List Int) → Option α) → Int → Int → (List Int) → Option α) : Hd where
  call := fun f args Bs k => none
  loop := fun id st k => cond (Nat.beq id 0) (loopH g69l0D (g69l0K L_g69l0) st k) (none)
  ro := fun f => []
def g69h (m : Nat) : Hd := g69hd (g69l0M m)
theorem g69l0Step  (L_g69l0 : {α : Type} → (List Int) → (List Int) → (Int → (List Int) → Option α) → Int → Int → (List Int) → Option α) {α : Type} (L : (List Int) → (List Int) → (Int → (List Int) → Option α) → Int → Int → (List Int) → Option α) (ls : List Lf) (k : Ex → St → Option α) :
    g69l0K (fun a840 a841 k853 v837 v838 a839 => g69l0b a840 a841 k853 (L a840 a841 k853) v837 v838 a839) ls k = ev tab (g69hd L_g69l0) (bodyAt Go.Proofs.Try.f69 0) (atHead g69l0D ls) (loopK g69l0D 0 (loopH g69l0D (g69l0K L)) k) := by kernel_rfl
theorem g69Main  (L_g69l0 : {α : Type} → (List Int) → (List Int) → (Int → (List Int) → Option α) → Int → Int → (List Int) → Option α) {α : Type} (ls : List Lf) (k : TV → List (List Seg) → List (List Seg) → Option α) :
    g69K (g69b L_g69l0) ls k = evFun tab (g69hd L_g69l0) Go.Proofs.Try.f69 (fillT g69tp ls).1 (fillB g69bp (fillT g69tp ls).2).1 k := by kernel_rfl
theorem g69Calls (m : Nat) : (g69h m).CallsOk Go.Proofs.Try.prog := cok_nil
theorem g69l0Ok (m : Nat) (α : Type) (st : St) (k : Ex → St → Option α) (r : α) (h : (g69h m).loop 0 st k = some r) :
    ∃ e st', k e st' = some r ∧ CodeS Go.Proofs.Try.prog (.block 0 (.loop (bodyAt Go.Proofs.Try.f69 0))) st e st' :=
  loop_ok (tab := tab) (h := g69h m) (F := fun n ls k => g69l0K (fun a840 a841 k853 v837 v838 a839 => g69l0 a840 a841 k853 n v837 v838 a839) ls k) tabOk (g69Calls m) mixed (loopsOk_of _ (fun p hp => by rw [show loopsOf (bodyAt Go.Proofs.Try.f69 0) = [] by kernel_rfl] at hp; cases hp))
    (fun _ _ => rfl) (fun n ls k => g69l0Step (g69l0M m) (fun a840 a841 k853 => g69l0 a840 a841 k853 n) ls k) (n := m) h
theorem g69Fn (m : Nat) : FnOk Go.Proofs.Try.prog 69 g69tp g69bp (fun {α} => g69K (g69 (α := α) m)) :=
  fn_ok (tab := tab) (h := g69h m) (fn := Go.Proofs.Try.f69) (F := fun {α} => g69K (g69 (α := α) m)) tabOk (g69Calls m) mixed (by kernel_rfl) (by kernel_rfl) (fun c hc => by
    rw [bodyOf_some hc]
    exact loopsOk_of _ (fun p hp => by
    rw [show loopsOf (bodyOf Go.Proofs.Try.f69) = [(0, bodyAt Go.Proofs.Try.f69 0)] by kernel_rfl] at hp
    simp only [List.mem_cons, List.not_mem_nil, or_false] at hp
    rcases hp with rfl
    exact g69l0Ok m))
    (fun α ls k => g69Main (g69l0M m) ls k)
theorem g69Ok (m : Nat) : RowOk Go.Proofs.Try.prog 69 (fun {α} => rowK g69tp g69bp (g69K (g69 (α := α) m))) := row_of (g69Fn m)

/-! ### g70: (impl.size).compare -/
def g70l0b {α : Type}   (a866 : List Int) (a867 : List Int) (k876 : Int → Option α) (k877 : Option α) (r878 : Int → Option α) (v865 : Int) : Option α :=
  cond (decide (v865 ≥ (0 : Int)))
   (
    if 0 ≤ v865 ∧ v865 < (6 : Nat) then
      if v865.toNat < 6 then
        if 0 ≤ v865 ∧ v865 < (6 : Nat) then
          if v865.toNat < 6 then
            cond ((List.getD a866 v865.toNat 0) != (List.getD a867 v865.toNat 0))
             (
              if 0 ≤ v865 ∧ v865 < (6 : Nat) then
                if v865.toNat < 6 then
                  if 0 ≤ v865 ∧ v865 < (6 : Nat) then
                    if v865.toNat < 6 then
                      cond (decide ((List.getD a866 v865.toNat 0) < (List.getD a867 v865.toNat 0)))
                       (
                        k876 (-1 : Int))
                       (
                        k876 (1 : Int))
                    else
                      none
                  else
                    none
                else
                  none
              else
                none)
             (
              r878 (IntKind.wrap .i64 (v865 - (1 : Int))))
          else
            none
        else
          none
      else
        none
    else
      none)
   (
    k877)
def g70l0 {α : Type}   (a866 : List Int) (a867 : List Int) (k876 : Int → Option α) (k877 : Option α) : Nat → Int → Option α
  | 0 => fun _ => none
  | m + 1 => fun v865 => g70l0b a866 a867 k876 k877 (g70l0 a866 a867 k876 k877 m) v865
def g70l0M {α : Type} (m : Nat) : (List Int) → (List Int) → (Int → Option α) → (Option α) → Int → Option α :=
  fun a866 a867 k876 k877 v865 => g70l0 a866 a867 k876 k877 m v865
def g70l0D : LoopD := { n := 24, sl := [2, 3, 5], bl := [1002, 1003], tp := [(.vl (.sv (.ptr 1002 0))), (.vl (.sv (.ptr 1003 0))), (.vl (.sv (.int .i64)))], bp := [(true, [(.seq (.int .u32) 6)]), (true, [(.seq (.int .u32) 6)])], xs := [(1, [4], []), (2, [], [])] }
def g70l0K {α : Type} (L : (List Int) → (List Int) → (Int → Option α) → (Option α) → Int → Option α) (ls : List Lf) (k : Ex → St → Option α) : Option α :=
  L ((lf ls 1).lst (.int .u32)) ((lf ls 2).lst (.int .u32))
    (fun y0 => k .ret (mkSt 24 [4] [(.vl (.sv (.int .i64 y0)))] [] []))
    (k .normal (mkSt 24 [] [] [] []))
    (lf ls 0).int
def g70b {α : Type}  (L_g70l0 : {α : Type} → (List Int) → (List Int) → (Int → Option α) → (Option α) → Int → Option α) (u863 : List Int) (u864 : List Int) (k880 : Int → Option α) : Option α :=
  L_g70l0 u863 u864
    (fun x879 =>
      k880 x879)
    (
      k880 (0 : Int))
    (5 : Int)
def g70 {α : Type} (m : Nat) : (List Int) → (List Int) → (Int → Option α) → Option α :=
  g70b (g70l0M m)
def g70tp : List TP := [(.vl (.agg [(.seq (.int .u32) 6)])), (.vl (.agg [(.seq (.int .u32) 6)]))]
def g70bp : List BP := []
def g70K {α : Type} (G : (List Int) → (List Int) → (Int → Option α) → Option α) (ls : List Lf) (k : TV → List (List Seg) → List (List Seg) → Option α) : Option α :=
  G ((lf ls 0).lst (.int .u32)) ((lf ls 1).lst (.int .u32))
    (fun y0 => k (.vl (.sv (.int .i64 y0))) [] [])
def g70hd  (L_g70l0 : {α : Type} → (List Int) → (List Int) → (Int → Option α) → (Option α) → Int → Option α) : Hd where
  call := fun f args Bs k => none
  loop := fun id st k => cond (Nat.beq id 0) (loopH g70l0D (g70l0K L_g70l0) st k) (none)
  ro := fun f => []
def g70h (m : Nat) : Hd := g70hd (g70l0M m)
theorem g70l0Step  (L_g70l0 : {α : Type} → (List Int) → (List Int) → (Int → Option α) → (Option α) → Int → Option α) {α : Type} (L : (List Int) → (List Int) → (Int → Option α) → (Option α) → Int → Option α) (ls : List Lf) (k : Ex → St → Option α) :
    g70l0K (fun a866 a867 k876 k877 v865 => g70l0b a866 a867 k876 k877 (L a866 a867 k876 k877) v865) ls k = ev tab (g70hd L_g70l0) (bodyAt Go.Proofs.Try.f70 0) (atHead g70l0D ls) (loopK g70l0D 0 (loopH g70l0D (g70l0K L)) k) := by kernel_rfl
theorem g70Main  (L_g70l0 : {α : Type} → (List Int) → (List Int) → (Int → Option α) → (Option α) → Int → Option α) {α : Type} (ls : List Lf) (k : TV → List (List Seg) → List (List Seg) → Option α) :
    g70K (g70b L_g70l0) ls k = evFun tab (g70hd L_g70l0) Go.Proofs.Try.f70 (fillT g70tp ls).1 (fillB g70bp (fillT g70tp ls).2).1 k := by kernel_rfl
theorem g70Calls (m : Nat) : (g70h m).CallsOk Go.Proofs.Try.prog := cok_nil
theorem g70l0Ok (m : Nat) (α : Type) (st : St) (k : Ex → St → Option α) (r : α) (h : (g70h m).loop 0 st k = some r) :
    ∃ e st', k e st' = some r ∧ CodeS Go.Proofs.Try.prog (.block 0 (.loop (bodyAt Go.Proofs.Try.f70 0))) st e st' :=
  loop_ok (tab := tab) (h := g70h m) (F := fun n ls k => g70l0K (fun a866 a867 k876 k877 v865 => g70l0 a866 a867 k876 k877 n v865) ls k) tabOk (g70Calls m) mixed (loopsOk_of _ (fun p hp => by rw [show loopsOf (bodyAt Go.Proofs.Try.f70 0) = [] by kernel_rfl] at hp; cases hp))
    (fun _ _ => rfl) (fun n ls k => g70l0Step (g70l0M m) (fun a866 a867 k876 k877 => g70l0 a866 a867 k876 k877 n) ls k) (n := m) h
theorem g70Fn (m : Nat) : FnOk Go.Proofs.Try.prog 70 g70tp g70bp (fun {α} => g70K (g70 (α := α) m)) :=
  fn_ok (tab := tab) (h := g70h m) (fn := Go.Proofs.Try.f70) (F := fun {α} => g70K (g70 (α := α) m)) tabOk (g70Calls m) mixed (by kernel_rfl) (by kernel_rfl) (fun c hc => by
    rw [bodyOf_some hc]
    exact loopsOk_of _ (fun p hp => by
    rw [show loopsOf (bodyOf Go.Proofs.Try.f70) = [(0, bodyAt Go.Proofs.Try.f70 0)] by kernel_rfl] at hp
    simp only [List.mem_cons, List.not_mem_nil, or_false] at hp
    rcases hp with rfl
    exact g70l0Ok m))
    (fun α ls k => g70Main (g70l0M m) ls k)
theorem g70Ok (m : Nat) : RowOk Go.Proofs.Try.prog 70 (fun {α} => rowK g70tp g70bp (g70K (g70 (α := α) m))) := row_of (g70Fn m)

/-! ### g85: (impl.size).minus -/
def g85l0b {α : Type}   (a888 : List Int) (a889 : List Int) (k901 : (List Int) → Option α) (r902 : Int → Int → (List Int) → Option α) (v885 : Int) (v886 : Int) (a887 : List Int) : Option α :=
  cond (decide (v886 < (6 : Int)))
   (
    if 0 ≤ v886 ∧ v886 < (6 : Nat) then
      if v886.toNat < 6 then
        if 0 ≤ v886 ∧ v886 < (6 : Nat) then
          if v886.toNat < 6 then
            let x896 : Int := IntKind.wrap .u64 ((IntKind.wrap .u64 ((IntKind.wrap .u64 (List.getD a887 v886.toNat 0)) - (IntKind.wrap .u64 (List.getD a888 v886.toNat 0)))) - v885)
            if 0 ≤ v886 ∧ v886 < (6 : Nat) then
              if v886.toNat < 6 then
                r902 (Int.fdiv x896 (2 ^ 63)) (IntKind.wrap .i64 (v886 + (1 : Int))) (List.set a887 (v886.toNat) (IntKind.wrap .u32 x896))
              else
                none
            else
              none
          else
            none
        else
          none
      else
        none
    else
      none)
   (
    k901 a887)
def g85l0 {α : Type}   (a888 : List Int) (a889 : List Int) (k901 : (List Int) → Option α) : Nat → Int → Int → (List Int) → Option α
  | 0 => fun _ _ _ => none
  | m + 1 => fun v885 v886 a887 => g85l0b a888 a889 k901 (g85l0 a888 a889 k901 m) v885 v886 a887
def g85l0M {α : Type} (m : Nat) : (List Int) → (List Int) → ((List Int) → Option α) → Int → Int → (List Int) → Option α :=
  fun a888 a889 k901 v885 v886 a887 => g85l0 a888 a889 k901 m v885 v886 a887
def g85l0D : LoopD := { n := 30, sl := [2, 3, 4, 5, 8], bl := [1002, 1003, 1004], tp := [(.vl (.sv (.ptr 1002 0))), (.vl (.sv (.ptr 1003 0))), (.vl (.sv (.ptr 1004 0))), (.vl (.sv (.int .u64))), (.vl (.sv (.int .i64)))], bp := [(true, [(.seq (.int .u32) 6)]), (true, [(.seq (.int .u32) 6)]), (true, [(.seq (.int .u32) 6)])], xs := [(2, [2, 4], [1002, 1004])] }
def g85l0K {α : Type} (L : (List Int) → (List Int) → ((List Int) → Option α) → Int → Int → (List Int) → Option α) (ls : List Lf) (k : Ex → St → Option α) : Option α :=
  L ((lf ls 3).lst (.int .u32)) ((lf ls 4).lst (.int .u32))
    (fun y0 => k .normal (mkSt 30 [2, 4] [(.vl (.sv (.ptr 1002 0))), (.vl (.sv (.ptr 1004 0)))] [1002, 1004] [(true, [(.seq (.int .u32) 6 y0)]), (true, [(.seq (.int .u32) 6 ((lf ls 4).lst (.int .u32)))])]))
    (lf ls 0).int (lf ls 1).int ((lf ls 2).lst (.int .u32))
def g85b {α : Type}  (L_g85l0 : {α : Type} → (List Int) → (List Int) → ((List Int) → Option α) → Int → Int → (List Int) → Option α) (u883 : List Int) (u884 : List Int) (k904 : (List Int) → Option α) : Option α :=
  L_g85l0 u884 [0, 0, 0, 0, 0, 0]
    (fun l903 =>
      k904 l903)
    (0 : Int) (0 : Int) u883
def g85 {α : Type} (m : Nat) : (List Int) → (List Int) → ((List Int) → Option α) → Option α :=
  g85b (g85l0M m)
def g85tp : List TP := [(.vl (.agg [(.seq (.int .u32) 6)])), (.vl (.agg [(.seq (.int .u32) 6)]))]
def g85bp : List BP := []
def g85K {α : Type} (G : (List Int) → (List Int) → ((List Int) → Option α) → Option α) (ls : List Lf) (k : TV → List (List Seg) → List (List Seg) → Option α) : Option α :=
  G ((lf ls 0).lst (.int .u32)) ((lf ls 1).lst (.int .u32))
    (fun y0 => k (.vl (.agg [(.seq (.int .u32) 6 y0)])) [] [])
def g85hd  (L_g85l0 : {α : Type} → (List Int) → (List Int) → ((List Int) → Option α) → Int → Int → (List Int) → Option α) : Hd where
  call := fun f args Bs k => none
  loop := fun id st k => cond (Nat.beq id 0) (loopH g85l0D (g85l0K L_g85l0) st k) (none)
  ro := fun f => []
def g85h (m : Nat) : Hd := g85hd (g85l0M m)
theorem g85l0Step  (L_g85l0 : {α : Type} → (List Int) → (List Int) → ((List Int) → Option α) → Int → Int → (List Int) → Option α) {α : Type} (L : (List Int) → (List Int) → ((List Int) → Option α) → Int → Int → (List Int) → Option α) (ls : List Lf) (k : Ex → St → Option α) :
    g85l0K (fun a888 a889 k901 v885 v886 a887 => g85l0b a888 a889 k901 (L a888 a889 k901) v885 v886 a887) ls k = ev tab (g85hd L_g85l0) (bodyAt Go.Proofs.Try.f85 0) (atHead g85l0D ls) (loopK g85l0D 0 (loopH g85l0D (g85l0K L)) k) := by kernel_rfl
theorem g85Main  (L_g85l0 : {α : Type} → (List Int) → (List Int) → ((List Int) → Option α) → Int → Int → (List Int) → Option α) {α : Type} (ls : List Lf) (k : TV → List (List Seg) → List (List Seg) → Option α) :
    g85K (g85b L_g85l0) ls k = evFun tab (g85hd L_g85l0) Go.Proofs.Try.f85 (fillT g85tp ls).1 (fillB g85bp (fillT g85tp ls).2).1 k := by kernel_rfl
theorem g85Calls (m : Nat) : (g85h m).CallsOk Go.Proofs.Try.prog := cok_nil
theorem g85l0Ok (m : Nat) (α : Type) (st : St) (k : Ex → St → Option α) (r : α) (h : (g85h m).loop 0 st k = some r) :
    ∃ e st', k e st' = some r ∧ CodeS Go.Proofs.Try.prog (.block 0 (.loop (bodyAt Go.Proofs.Try.f85 0))) st e st' :=
  loop_ok (tab := tab) (h := g85h m) (F := fun n ls k => g85l0K (fun a888 a889 k901 v885 v886 a887 => g85l0 a888 a889 k901 n v885 v886 a887) ls k) tabOk (g85Calls m) mixed (loopsOk_of _ (fun p hp => by rw [show loopsOf (bodyAt Go.Proofs.Try.f85 0) = [] by kernel_rfl] at hp; cases hp))
    (fun _ _ => rfl) (fun n ls k => g85l0Step (g85l0M m) (fun a888 a889 k901 => g85l0 a888 a889 k901 n) ls k) (n := m) h
theorem g85Fn (m : Nat) : FnOk Go.Proofs.Try.prog 85 g85tp g85bp (fun {α} => g85K (g85 (α := α) m)) :=
  fn_ok (tab := tab) (h := g85h m) (fn := Go.Proofs.Try.f85) (F := fun {α} => g85K (g85 (α := α) m)) tabOk (g85Calls m) mixed (by kernel_rfl) (by kernel_rfl) (fun c hc => by
    rw [bodyOf_some hc]
    exact loopsOk_of _ (fun p hp => by
    rw [show loopsOf (bodyOf Go.Proofs.Try.f85) = [(0, bodyAt Go.Proofs.Try.f85 0)] by kernel_rfl] at hp
    simp only [List.mem_cons, List.not_mem_nil, or_false] at hp
    rcases hp with rfl
    exact g85l0Ok m))
    (fun α ls k => g85Main (g85l0M m) ls k)
theorem g85Ok (m : Nat) : RowOk Go.Proofs.Try.prog 85 (fun {α} => rowK g85tp g85bp (g85K (g85 (α := α) m))) := row_of (g85Fn m)

/-! ### g53: (*impl.calc).add -/
def g53b {α : Type} (G_g69 : {α : Type} → (List Int) → (List Int) → ((List Int) → Bool → Option α) → Option α) (G_g84 : {α : Type} → Bool → (List Int) → (Bool → Option α) → Option α) (G_g70 : {α : Type} → (List Int) → (List Int) → (Int → Option α) → Option α) (G_g85 : {α : Type} → (List Int) → (List Int) → ((List Int) → Option α) → Option α)  (q829 : Bool) (u830 : List Int) (q831 : Bool) (u832 : List Int) (q833 : Bool) (k909 : Bool → (List Int) → Bool → Option α) : Option α :=
  cond (q829 == q831)
   (
    G_g69 u830 u832
      (fun l859 b860 =>
        cond q833
         (
          G_g84 q829 l859
            (fun b861 =>
              k909 b861 l859 true))
         (
          G_g84 q829 l859
            (fun b862 =>
              k909 b862 l859 b860))))
   (
    G_g70 u830 u832
      (fun x881 =>
        cond (decide (x881 < (0 : Int)))
         (
          G_g85 u832 u830
            (fun l905 =>
              G_g84 q831 l905
                (fun b906 =>
                  k909 b906 l905 q833)))
         (
          G_g85 u830 u832
            (fun l907 =>
              G_g84 q829 l907
                (fun b908 =>
                  k909 b908 l907 q833)))))
def g53 {α : Type} (m : Nat) : Bool → (List Int) → Bool → (List Int) → Bool → (Bool → (List Int) → Bool → Option α) → Option α :=
  g53b (g69 m) (g84 m) (g70 m) (g85 m)
def g53tp : List TP := [(.vl (.sv (.ptr 0 0))), (.vl (.agg [(.one .bool), (.seq (.int .u32) 6)])), (.vl (.agg [(.one .bool), (.seq (.int .u32) 6)]))]
def g53bp : List BP := [(true, [(.one .bool)])]
def g53K {α : Type} (G : Bool → (List Int) → Bool → (List Int) → Bool → (Bool → (List Int) → Bool → Option α) → Option α) (ls : List Lf) (k : TV → List (List Seg) → List (List Seg) → Option α) : Option α :=
  G (lf ls 0).bool ((lf ls 1).lst (.int .u32)) (lf ls 2).bool ((lf ls 3).lst (.int .u32)) (lf ls 4).bool
    (fun y0 y1 y2 => k (.vl (.agg [(.one (.bool y0)), (.seq (.int .u32) 6 y1)])) [[(.one (.bool y2))]] [])
def g53hd (G_g69 : {α : Type} → (List Int) → (List Int) → ((List Int) → Bool → Option α) → Option α) (G_g84 : {α : Type} → Bool → (List Int) → (Bool → Option α) → Option α) (G_g70 : {α : Type} → (List Int) → (List Int) → (Int → Option α) → Option α) (G_g85 : {α : Type} → (List Int) → (List Int) → ((List Int) → Option α) → Option α)  : Hd where
  call := fun f args Bs k => cond (Nat.beq f 69) (rowK g69tp g69bp (g69K G_g69) args Bs k) (cond (Nat.beq f 84) (rowK g84tp g84bp (g84K G_g84) args Bs k) (cond (Nat.beq f 70) (rowK g70tp g70bp (g70K G_g70) args Bs k) (cond (Nat.beq f 85) (rowK g85tp g85bp (g85K G_g85) args Bs k) (none))))
  loop := fun id st k => none
  ro := fun f => []
def g53h (m : Nat) : Hd := g53hd (g69 m) (g84 m) (g70 m) (g85 m)
theorem g53Main (G_g69 : {α : Type} → (List Int) → (List Int) → ((List Int) → Bool → Option α) → Option α) (G_g84 : {α : Type} → Bool → (List Int) → (Bool → Option α) → Option α) (G_g70 : {α : Type} → (List Int) → (List Int) → (Int → Option α) → Option α) (G_g85 : {α : Type} → (List Int) → (List Int) → ((List Int) → Option α) → Option α)  {α : Type} (ls : List Lf) (k : TV → List (List Seg) → List (List Seg) → Option α) :
    g53K (g53b G_g69 G_g84 G_g70 G_g85) ls k = evFun tab (g53hd G_g69 G_g84 G_g70 G_g85) Go.Proofs.Try.f53 (fillT g53tp ls).1 (fillB g53bp (fillT g53tp ls).2).1 k := by kernel_rfl
theorem g53Calls (m : Nat) : (g53h m).CallsOk Go.Proofs.Try.prog := (cok_cons (g69Ok m) (cok_cons (g84Ok m) (cok_cons (g70Ok m) (cok_cons (g85Ok m) cok_nil))))
theorem g53Fn (m : Nat) : FnOk Go.Proofs.Try.prog 53 g53tp g53bp (fun {α} => g53K (g53 (α := α) m)) :=
  fn_ok (tab := tab) (h := g53h m) (fn := Go.Proofs.Try.f53) (F := fun {α} => g53K (g53 (α := α) m)) tabOk (g53Calls m) mixed (by kernel_rfl) (by kernel_rfl) (fun c hc => by
    rw [bodyOf_some hc]
    exact loopsOk_of _ (fun p hp => by rw [show loopsOf (bodyOf Go.Proofs.Try.f53) = [] by kernel_rfl] at hp; cases hp))
    (fun α ls k => g53Main (g69 m) (g84 m) (g70 m) (g85 m) ls k)
theorem g53Ok (m : Nat) : RowOk Go.Proofs.Try.prog 53 (fun {α} => rowK g53tp g53bp (g53K (g53 (α := α) m))) := row_of (g53Fn m)

/-! ### g56: (*impl.calc).told -/
def g56b {α : Type}   (q919 : Bool) (u920 : List Int) (q921 : Bool) (k922 : Bool → (List Int) → Int → Option α) : Option α :=
  cond q921
   (
    k922 false [0, 0, 0, 0, 0, 0] (3 : Int))
   (
    k922 q919 u920 (0 : Int))
def g56 {α : Type} (m : Nat) : Bool → (List Int) → Bool → (Bool → (List Int) → Int → Option α) → Option α :=
  g56b
def g56tp : List TP := [(.vl (.sv (.ptr 0 0))), (.vl (.agg [(.one .bool), (.seq (.int .u32) 6)]))]
def g56bp : List BP := [(false, [(.one .bool)])]
def g56K {α : Type} (G : Bool → (List Int) → Bool → (Bool → (List Int) → Int → Option α) → Option α) (ls : List Lf) (k : TV → List (List Seg) → List (List Seg) → Option α) : Option α :=
  G (lf ls 0).bool ((lf ls 1).lst (.int .u32)) (lf ls 2).bool
    (fun y0 y1 y2 => k (.tup [(.agg [(.one (.bool y0)), (.seq (.int .u32) 6 y1)]), (.sv (.int .i64 y2))]) [[(.one (.bool (lf ls 2).bool))]] [])
def g56hd   : Hd where
  call := fun f args Bs k => none
  loop := fun id st k => none
  ro := fun f => []
def g56h (m : Nat) : Hd := g56hd
theorem g56Main   {α : Type} (ls : List Lf) (k : TV → List (List Seg) → List (List Seg) → Option α) :
    g56K (g56b) ls k = evFun tab (g56hd) Go.Proofs.Try.f56 (fillT g56tp ls).1 (fillB g56bp (fillT g56tp ls).2).1 k := by kernel_rfl
theorem g56Calls (m : Nat) : (g56h m).CallsOk Go.Proofs.Try.prog := cok_nil
theorem g56Fn (m : Nat) : FnOk Go.Proofs.Try.prog 56 g56tp g56bp (fun {α} => g56K (g56 (α := α) m)) :=
  fn_ok (tab := tab) (h := g56h m) (fn := Go.Proofs.Try.f56) (F := fun {α} => g56K (g56 (α := α) m)) tabOk (g56Calls m) mixed (by kernel_rfl) (by kernel_rfl) (fun c hc => by
    rw [bodyOf_some hc]
    exact loopsOk_of _ (fun p hp => by rw [show loopsOf (bodyOf Go.Proofs.Try.f56) = [] by kernel_rfl] at hp; cases hp))
    (fun α ls k => g56Main ls k)
theorem g56Ok (m : Nat) : RowOk Go.Proofs.Try.prog 56 (fun {α} => rowK g56tp g56bp (g56K (g56 (α := α) m))) := row_of (g56Fn m)

/-! ### g21: impl.ValueOfDigits -/
def g21l0b {α : Type} (G_g55 : {α : Type} → Int → (Bool → (List Int) → Option α) → Option α) (G_g54 : {α : Type} → Bool → (List Int) → Bool → (List Int) → Bool → (Bool → (List Int) → Bool → Option α) → Option α) (G_g53 : {α : Type} → Bool → (List Int) → Bool → (List Int) → Bool → (Bool → (List Int) → Bool → Option α) → Option α)  (m714 : Nat) (m715 : Nat) (m716 : Nat) (v717 : Int) (m719 : Nat) (a720 : List Int) (c721 : Bool) (a722 : List Int) (k914 : Bool → Bool → (List Int) → Option α) (r915 : Int → Bool → Bool → (List Int) → Option α) (v718 : Int) (c723 : Bool) (c724 : Bool) (a725 : List Int) : Option α :=
  cond (decide (v718 < v717))
   (
    if 0 ≤ v718 ∧ v718 < (m715 : Nat) then
      if (m714 + v718.toNat) < m719 then
        G_g55 (2 : Int)
          (fun b747 l748 =>
            G_g54 b747 l748 c724 a725 c723
              (fun b823 l824 b825 =>
                G_g55 (IntKind.wrap .i64 (List.getD a720 (m714 + v718.toNat) 0))
                  (fun b827 l828 =>
                    G_g53 b823 l824 b827 l828 b825
                      (fun b910 l911 b912 =>
                        r915 (IntKind.wrap .i64 (v718 + (1 : Int))) b912 b910 l911))))
      else
        none
    else
      none)
   (
    k914 c723 c724 a725)
def g21l0 {α : Type} (G_g55 : {α : Type} → Int → (Bool → (List Int) → Option α) → Option α) (G_g54 : {α : Type} → Bool → (List Int) → Bool → (List Int) → Bool → (Bool → (List Int) → Bool → Option α) → Option α) (G_g53 : {α : Type} → Bool → (List Int) → Bool → (List Int) → Bool → (Bool → (List Int) → Bool → Option α) → Option α)  (m714 : Nat) (m715 : Nat) (m716 : Nat) (v717 : Int) (m719 : Nat) (a720 : List Int) (c721 : Bool) (a722 : List Int) (k914 : Bool → Bool → (List Int) → Option α) : Nat → Int → Bool → Bool → (List Int) → Option α
  | 0 => fun _ _ _ _ => none
  | m + 1 => fun v718 c723 c724 a725 => g21l0b G_g55 G_g54 G_g53 m714 m715 m716 v717 m719 a720 c721 a722 k914 (g21l0 G_g55 G_g54 G_g53 m714 m715 m716 v717 m719 a720 c721 a722 k914 m) v718 c723 c724 a725
def g21l0M {α : Type} (m : Nat) : Nat → Nat → Nat → Int → Nat → (List Int) → Bool → (List Int) → (Bool → Bool → (List Int) → Option α) → Int → Bool → Bool → (List Int) → Option α :=
  fun m714 m715 m716 v717 m719 a720 c721 a722 k914 v718 c723 c724 a725 => g21l0 (g55 m) (g54 m) (g53 m) m714 m715 m716 v717 m719 a720 c721 a722 k914 m v718 c723 c724 a725
def g21l0D : LoopD := { n := 42, sl := [4, 6, 7, 24, 25, 26], bl := [0, 1004, 1006, 1007], tp := [(.vl (.sv (.ptr 1004 0))), (.vl (.sv (.ptr 1006 0))), (.vl (.sv (.ptr 1007 0))), (.vl (.sv (.slc 0 0 1))), (.vl (.sv (.int .i64))), (.vl (.sv (.int .i64)))], bp := [(false, [(.seqv (.int .i8))]), (true, [(.one .bool), (.seq (.int .u32) 6)]), (true, [(.one .bool)]), (true, [(.one .bool), (.seq (.int .u32) 6)])], xs := [(2, [4, 6, 7], [0, 1004, 1006, 1007])] }
def g21l0K {α : Type} (L : Nat → Nat → Nat → Int → Nat → (List Int) → Bool → (List Int) → (Bool → Bool → (List Int) → Option α) → Int → Bool → Bool → (List Int) → Option α) (ls : List Lf) (k : Ex → St → Option α) : Option α :=
  L (lf ls 0).nat (lf ls 1).nat (lf ls 2).nat (lf ls 3).int (lf ls 5).nat ((lf ls 6).lst (.int .i8)) (lf ls 7).bool ((lf ls 8).lst (.int .u32))
    (fun y4 y5 y6 => k .normal (mkSt 42 [4, 6, 7] [(.vl (.sv (.ptr 1004 0))), (.vl (.sv (.ptr 1006 0))), (.vl (.sv (.ptr 1007 0)))] [0, 1004, 1006, 1007] [(false, [(.seq (.int .i8) (lf ls 5).nat ((lf ls 6).lst (.int .i8)))]), (true, [(.one (.bool (lf ls 7).bool)), (.seq (.int .u32) 6 ((lf ls 8).lst (.int .u32)))]), (true, [(.one (.bool y4))]), (true, [(.one (.bool y5)), (.seq (.int .u32) 6 y6)])]))
    (lf ls 4).int (lf ls 9).bool (lf ls 10).bool ((lf ls 11).lst (.int .u32))
def g21b {α : Type} (G_g49 : {α : Type} → Bool → (List Int) → (Bool → Option α) → Option α) (G_g50 : {α : Type} → Nat → Nat → Nat → Nat → (List Int) → (Bool → Option α) → Option α) (G_g55 : {α : Type} → Int → (Bool → (List Int) → Option α) → Option α) (G_g54 : {α : Type} → Bool → (List Int) → Bool → (List Int) → Bool → (Bool → (List Int) → Bool → Option α) → Option α) (G_g53 : {α : Type} → Bool → (List Int) → Bool → (List Int) → Bool → (Bool → (List Int) → Bool → Option α) → Option α) (G_g56 : {α : Type} → Bool → (List Int) → Bool → (Bool → (List Int) → Int → Option α) → Option α) (L_g21l0 : {α : Type} → Nat → Nat → Nat → Int → Nat → (List Int) → Bool → (List Int) → (Bool → Bool → (List Int) → Option α) → Int → Bool → Bool → (List Int) → Option α) (q661 : Bool) (u662 : List Int) (m663 : Nat) (m664 : Nat) (m665 : Nat) (m666 : Nat) (u667 : List Int) (k926 : Bool → (List Int) → Int → Option α) : Option α :=
  G_g49 q661 u662
    (fun b673 =>
      cond (!b673)
       (
        k926 false [0, 0, 0, 0, 0, 0] (1 : Int))
       (
        G_g50 m663 m664 m665 m666 u667
          (fun b712 =>
            cond b712
             (
              k926 false [0, 0, 0, 0, 0, 0] (1 : Int))
             (
              cond (decide (((m664 : Nat) : Int) > (64 : Int)))
               (
                k926 false [0, 0, 0, 0, 0, 0] (2 : Int))
               (
                L_g21l0 m663 m664 m665 ((m664 : Nat) : Int) m666 u667 false [0, 0, 0, 0, 0, 0]
                  (fun b916 b917 l918 =>
                    G_g56 b917 l918 b916
                      (fun b923 l924 x925 =>
                        k926 b923 l924 x925))
                  (0 : Int) false q661 u662)))))
def g21 {α : Type} (m : Nat) : Bool → (List Int) → Nat → Nat → Nat → Nat → (List Int) → (Bool → (List Int) → Int → Option α) → Option α :=
  g21b (g49 m) (g50 m) (g55 m) (g54 m) (g53 m) (g56 m) (g21l0M m)
def g21tp : List TP := [(.vl (.agg [(.one .bool), (.seq (.int .u32) 6)])), (.vl (.sv (.slc 0 0 1)))]
def g21bp : List BP := [(false, [(.seqv (.int .i8))])]
def g21K {α : Type} (G : Bool → (List Int) → Nat → Nat → Nat → Nat → (List Int) → (Bool → (List Int) → Int → Option α) → Option α) (ls : List Lf) (k : TV → List (List Seg) → List (List Seg) → Option α) : Option α :=
  G (lf ls 0).bool ((lf ls 1).lst (.int .u32)) (lf ls 2).nat (lf ls 3).nat (lf ls 4).nat (lf ls 5).nat ((lf ls 6).lst (.int .i8))
    (fun y0 y1 y2 => k (.tup [(.agg [(.one (.bool y0)), (.seq (.int .u32) 6 y1)]), (.sv (.int .i64 y2))]) [[(.seq (.int .i8) (lf ls 5).nat ((lf ls 6).lst (.int .i8)))]] [])
def g21hd (G_g49 : {α : Type} → Bool → (List Int) → (Bool → Option α) → Option α) (G_g50 : {α : Type} → Nat → Nat → Nat → Nat → (List Int) → (Bool → Option α) → Option α) (G_g55 : {α : Type} → Int → (Bool → (List Int) → Option α) → Option α) (G_g54 : {α : Type} → Bool → (List Int) → Bool → (List Int) → Bool → (Bool → (List Int) → Bool → Option α) → Option α) (G_g53 : {α : Type} → Bool → (List Int) → Bool → (List Int) → Bool → (Bool → (List Int) → Bool → Option α) → Option α) (G_g56 : {α : Type} → Bool → (List Int) → Bool → (Bool → (List Int) → Int → Option α) → Option α) (L_g21l0 : {α : Type} → Nat → Nat → Nat → Int → Nat → (List Int) → Bool → (List Int) → (Bool → Bool → (List Int) → Option α) → Int → Bool → Bool → (List Int) → Option α) : Hd where
  call := fun f args Bs k => cond (Nat.beq f 49) (rowK g49tp g49bp (g49K G_g49) args Bs k) (cond (Nat.beq f 50) (rowK g50tp g50bp (g50K G_g50) args Bs k) (cond (Nat.beq f 55) (rowK g55tp g55bp (g55K G_g55) args Bs k) (cond (Nat.beq f 54) (rowK g54tp g54bp (g54K G_g54) args Bs k) (cond (Nat.beq f 53) (rowK g53tp g53bp (g53K G_g53) args Bs k) (cond (Nat.beq f 56) (rowK g56tp g56bp (g56K G_g56) args Bs k) (none))))))
  loop := fun id st k => cond (Nat.beq id 0) (loopH g21l0D (g21l0K L_g21l0) st k) (none)
  ro := fun f => cond (Nat.beq f 50) [0] (cond (Nat.beq f 56) [0] ([]))
def g21h (m : Nat) : Hd := g21hd (g49 m) (g50 m) (g55 m) (g54 m) (g53 m) (g56 m) (g21l0M m)
theorem g21l0Step (G_g49 : {α : Type} → Bool → (List Int) → (Bool → Option α) → Option α) (G_g50 : {α : Type} → Nat → Nat → Nat → Nat → (List Int) → (Bool → Option α) → Option α) (G_g55 : {α : Type} → Int → (Bool → (List Int) → Option α) → Option α) (G_g54 : {α : Type} → Bool → (List Int) → Bool → (List Int) → Bool → (Bool → (List Int) → Bool → Option α) → Option α) (G_g53 : {α : Type} → Bool → (List Int) → Bool → (List Int) → Bool → (Bool → (List Int) → Bool → Option α) → Option α) (G_g56 : {α : Type} → Bool → (List Int) → Bool → (Bool → (List Int) → Int → Option α) → Option α) (L_g21l0 : {α : Type} → Nat → Nat → Nat → Int → Nat → (List Int) → Bool → (List Int) → (Bool → Bool → (List Int) → Option α) → Int → Bool → Bool → (List Int) → Option α) {α : Type} (L : Nat → Nat → Nat → Int → Nat → (List Int) → Bool → (List Int) → (Bool → Bool → (List Int) → Option α) → Int → Bool → Bool → (List Int) → Option α) (ls : List Lf) (k : Ex → St → Option α) :
    g21l0K (fun m714 m715 m716 v717 m719 a720 c721 a722 k914 v718 c723 c724 a725 => g21l0b G_g55 G_g54 G_g53 m714 m715 m716 v717 m719 a720 c721 a722 k914 (L m714 m715 m716 v717 m719 a720 c721 a722 k914) v718 c723 c724 a725) ls k = ev tab (g21hd G_g49 G_g50 G_g55 G_g54 G_g53 G_g56 L_g21l0) (bodyAt Go.Proofs.Try.f21 0) (atHead g21l0D ls) (loopK g21l0D 0 (loopH g21l0D (g21l0K L)) k) := by kernel_rfl
theorem g21Main (G_g49 : {α : Type} → Bool → (List Int) → (Bool → Option α) → Option α) (G_g50 : {α : Type} → Nat → Nat → Nat → Nat → (List Int) → (Bool → Option α) → Option α) (G_g55 : {α : Type} → Int → (Bool → (List Int) → Option α) → Option α) (G_g54 : {α : Type} → Bool → (List Int) → Bool → (List Int) → Bool → (Bool → (List Int) → Bool → Option α) → Option α) (G_g53 : {α : Type} → Bool → (List Int) → Bool → (List Int) → Bool → (Bool → (List Int) → Bool → Option α) → Option α) (G_g56 : {α : Type} → Bool → (List Int) → Bool → (Bool → (List Int) → Int → Option α) → Option α) (L_g21l0 : {α : Type} → Nat → Nat → Nat → Int → Nat → (List Int) → Bool → (List Int) → (Bool → Bool → (List Int) → Option α) → Int → Bool → Bool → (List Int) → Option α) {α : Type} (ls : List Lf) (k : TV → List (List Seg) → List (List Seg) → Option α) :
    g21K (g21b G_g49 G_g50 G_g55 G_g54 G_g53 G_g56 L_g21l0) ls k = evFun tab (g21hd G_g49 G_g50 G_g55 G_g54 G_g53 G_g56 L_g21l0) Go.Proofs.Try.f21 (fillT g21tp ls).1 (fillB g21bp (fillT g21tp ls).2).1 k := by kernel_rfl
theorem g21Calls (m : Nat) : (g21h m).CallsOk Go.Proofs.Try.prog := (cok_cons (g49Ok m) (cok_cons (g50Ok m) (cok_cons (g55Ok m) (cok_cons (g54Ok m) (cok_cons (g53Ok m) (cok_cons (g56Ok m) cok_nil))))))
theorem g21l0Ok (m : Nat) (α : Type) (st : St) (k : Ex → St → Option α) (r : α) (h : (g21h m).loop 0 st k = some r) :
    ∃ e st', k e st' = some r ∧ CodeS Go.Proofs.Try.prog (.block 0 (.loop (bodyAt Go.Proofs.Try.f21 0))) st e st' :=
  loop_ok (tab := tab) (h := g21h m) (F := fun n ls k => g21l0K (fun m714 m715 m716 v717 m719 a720 c721 a722 k914 v718 c723 c724 a725 => g21l0 (g55 m) (g54 m) (g53 m) m714 m715 m716 v717 m719 a720 c721 a722 k914 n v718 c723 c724 a725) ls k) tabOk (g21Calls m) mixed (loopsOk_of _ (fun p hp => by rw [show loopsOf (bodyAt Go.Proofs.Try.f21 0) = [] by kernel_rfl] at hp; cases hp))
    (fun _ _ => rfl) (fun n ls k => g21l0Step (g49 m) (g50 m) (g55 m) (g54 m) (g53 m) (g56 m) (g21l0M m) (fun m714 m715 m716 v717 m719 a720 c721 a722 k914 => g21l0 (g55 m) (g54 m) (g53 m) m714 m715 m716 v717 m719 a720 c721 a722 k914 n) ls k) (n := m) h
theorem g21Fn (m : Nat) : FnOk Go.Proofs.Try.prog 21 g21tp g21bp (fun {α} => g21K (g21 (α := α) m)) :=
  fn_ok (tab := tab) (h := g21h m) (fn := Go.Proofs.Try.f21) (F := fun {α} => g21K (g21 (α := α) m)) tabOk (g21Calls m) mixed (by kernel_rfl) (by kernel_rfl) (fun c hc => by
    rw [bodyOf_some hc]
    exact loopsOk_of _ (fun p hp => by
    rw [show loopsOf (bodyOf Go.Proofs.Try.f21) = [(0, bodyAt Go.Proofs.Try.f21 0)] by kernel_rfl] at hp
    simp only [List.mem_cons, List.not_mem_nil, or_false] at hp
    rcases hp with rfl
    exact g21l0Ok m))
    (fun α ls k => g21Main (g49 m) (g50 m) (g55 m) (g54 m) (g53 m) (g56 m) (g21l0M m) ls k)
theorem g21Ok (m : Nat) : RowOk Go.Proofs.Try.prog 21 (fun {α} => rowK g21tp g21bp (g21K (g21 (α := α) m))) := row_of (g21Fn m)

/-! ### g57: laws.eqUint32A6 -/
def g57l0b {α : Type}   (a938 : List Int) (a939 : List Int) (k945 : Option α) (k946 : Option α) (r947 : Int → Option α) (v937 : Int) : Option α :=
  cond (decide (v937 < (6 : Int)))
   (
    if 0 ≤ v937 ∧ v937 < (6 : Nat) then
      if v937.toNat < 6 then
        if 0 ≤ v937 ∧ v937 < (6 : Nat) then
          if v937.toNat < 6 then
            cond ((List.getD a938 v937.toNat 0) != (List.getD a939 v937.toNat 0))
             (
              k945)
             (
              r947 (IntKind.wrap .i64 (v937 + (1 : Int))))
          else
            none
        else
          none
      else
        none
    else
      none)
   (
    k946)
def g57l0 {α : Type}   (a938 : List Int) (a939 : List Int) (k945 : Option α) (k946 : Option α) : Nat → Int → Option α
  | 0 => fun _ => none
  | m + 1 => fun v937 => g57l0b a938 a939 k945 k946 (g57l0 a938 a939 k945 k946 m) v937
def g57l0M {α : Type} (m : Nat) : (List Int) → (List Int) → (Option α) → (Option α) → Int → Option α :=
  fun a938 a939 k945 k946 v937 => g57l0 a938 a939 k945 k946 m v937
def g57l0D : LoopD := { n := 17, sl := [2, 3, 5], bl := [1002, 1003], tp := [(.vl (.sv (.ptr 1002 0))), (.vl (.sv (.ptr 1003 0))), (.vl (.sv (.int .i64)))], bp := [(true, [(.seq (.int .u32) 6)]), (true, [(.seq (.int .u32) 6)])], xs := [(1, [4], []), (2, [], [])] }
def g57l0K {α : Type} (L : (List Int) → (List Int) → (Option α) → (Option α) → Int → Option α) (ls : List Lf) (k : Ex → St → Option α) : Option α :=
  L ((lf ls 1).lst (.int .u32)) ((lf ls 2).lst (.int .u32))
    (k .ret (mkSt 17 [4] [(.vl (.sv (.bool false)))] [] []))
    (k .normal (mkSt 17 [] [] [] []))
    (lf ls 0).int
def g57b {α : Type}  (L_g57l0 : {α : Type} → (List Int) → (List Int) → (Option α) → (Option α) → Int → Option α) (u935 : List Int) (u936 : List Int) (k948 : Bool → Option α) : Option α :=
  L_g57l0 u935 u936
    (
      k948 false)
    (
      k948 true)
    (0 : Int)
def g57 {α : Type} (m : Nat) : (List Int) → (List Int) → (Bool → Option α) → Option α :=
  g57b (g57l0M m)
def g57tp : List TP := [(.vl (.agg [(.seq (.int .u32) 6)])), (.vl (.agg [(.seq (.int .u32) 6)]))]
def g57bp : List BP := []
def g57K {α : Type} (G : (List Int) → (List Int) → (Bool → Option α) → Option α) (ls : List Lf) (k : TV → List (List Seg) → List (List Seg) → Option α) : Option α :=
  G ((lf ls 0).lst (.int .u32)) ((lf ls 1).lst (.int .u32))
    (fun y0 => k (.vl (.sv (.bool y0))) [] [])
def g57hd  (L_g57l0 : {α : Type} → (List Int) → (List Int) → (Option α) → (Option α) → Int → Option α) : Hd where
  call := fun f args Bs k => none
  loop := fun id st k => cond (Nat.beq id 0) (loopH g57l0D (g57l0K L_g57l0) st k) (none)
  ro := fun f => []
def g57h (m : Nat) : Hd := g57hd (g57l0M m)
theorem g57l0Step  (L_g57l0 : {α : Type} → (List Int) → (List Int) → (Option α) → (Option α) → Int → Option α) {α : Type} (L : (List Int) → (List Int) → (Option α) → (Option α) → Int → Option α) (ls : List Lf) (k : Ex → St → Option α) :
    g57l0K (fun a938 a939 k945 k946 v937 => g57l0b a938 a939 k945 k946 (L a938 a939 k945 k946) v937) ls k = ev tab (g57hd L_g57l0) (bodyAt Go.Proofs.Try.f57 0) (atHead g57l0D ls) (loopK g57l0D 0 (loopH g57l0D (g57l0K L)) k) := by kernel_rfl
theorem g57Main  (L_g57l0 : {α : Type} → (List Int) → (List Int) → (Option α) → (Option α) → Int → Option α) {α : Type} (ls : List Lf) (k : TV → List (List Seg) → List (List Seg) → Option α) :
    g57K (g57b L_g57l0) ls k = evFun tab (g57hd L_g57l0) Go.Proofs.Try.f57 (fillT g57tp ls).1 (fillB g57bp (fillT g57tp ls).2).1 k := by kernel_rfl
theorem g57Calls (m : Nat) : (g57h m).CallsOk Go.Proofs.Try.prog := cok_nil
theorem g57l0Ok (m : Nat) (α : Type) (st : St) (k : Ex → St → Option α) (r : α) (h : (g57h m).loop 0 st k = some r) :
    ∃ e st', k e st' = some r ∧ CodeS Go.Proofs.Try.prog (.block 0 (.loop (bodyAt Go.Proofs.Try.f57 0))) st e st' :=
  loop_ok (tab := tab) (h := g57h m) (F := fun n ls k => g57l0K (fun a938 a939 k945 k946 v937 => g57l0 a938 a939 k945 k946 n v937) ls k) tabOk (g57Calls m) mixed (loopsOk_of _ (fun p hp => by rw [show loopsOf (bodyAt Go.Proofs.Try.f57 0) = [] by kernel_rfl] at hp; cases hp))
    (fun _ _ => rfl) (fun n ls k => g57l0Step (g57l0M m) (fun a938 a939 k945 k946 => g57l0 a938 a939 k945 k946 n) ls k) (n := m) h
theorem g57Fn (m : Nat) : FnOk Go.Proofs.Try.prog 57 g57tp g57bp (fun {α} => g57K (g57 (α := α) m)) :=
  fn_ok (tab := tab) (h := g57h m) (fn := Go.Proofs.Try.f57) (F := fun {α} => g57K (g57 (α := α) m)) tabOk (g57Calls m) mixed (by kernel_rfl) (by kernel_rfl) (fun c hc => by
    rw [bodyOf_some hc]
    exact loopsOk_of _ (fun p hp => by
    rw [show loopsOf (bodyOf Go.Proofs.Try.f57) = [(0, bodyAt Go.Proofs.Try.f57 0)] by kernel_rfl] at hp
    simp only [List.mem_cons, List.not_mem_nil, or_false] at hp
    rcases hp with rfl
    exact g57l0Ok m))
    (fun α ls k => g57Main (g57l0M m) ls k)
theorem g57Ok (m : Nat) : RowOk Go.Proofs.Try.prog 57 (fun {α} => rowK g57tp g57bp (g57K (g57 (α := α) m))) := row_of (g57Fn m)

/-! ### g22: laws.eqWide -/
def g22b {α : Type} (G_g57 : {α : Type} → (List Int) → (List Int) → (Bool → Option α) → Option α)  (q930 : Bool) (u931 : List Int) (q932 : Bool) (u933 : List Int) (k951 : Bool → Option α) : Option α :=
  cond (!(q930 == q932))
   (
    k951 false)
   (
    G_g57 u931 u933
      (fun b949 =>
        cond (!b949)
         (
          k951 false)
         (
          k951 true)))
def g22 {α : Type} (m : Nat) : Bool → (List Int) → Bool → (List Int) → (Bool → Option α) → Option α :=
  g22b (g57 m)
def g22tp : List TP := [(.vl (.agg [(.one .bool), (.seq (.int .u32) 6)])), (.vl (.agg [(.one .bool), (.seq (.int .u32) 6)]))]
def g22bp : List BP := []
def g22K {α : Type} (G : Bool → (List Int) → Bool → (List Int) → (Bool → Option α) → Option α) (ls : List Lf) (k : TV → List (List Seg) → List (List Seg) → Option α) : Option α :=
  G (lf ls 0).bool ((lf ls 1).lst (.int .u32)) (lf ls 2).bool ((lf ls 3).lst (.int .u32))
    (fun y0 => k (.vl (.sv (.bool y0))) [] [])
def g22hd (G_g57 : {α : Type} → (List Int) → (List Int) → (Bool → Option α) → Option α)  : Hd where
  call := fun f args Bs k => cond (Nat.beq f 57) (rowK g57tp g57bp (g57K G_g57) args Bs k) (none)
  loop := fun id st k => none
  ro := fun f => []
def g22h (m : Nat) : Hd := g22hd (g57 m)
theorem g22Main (G_g57 : {α : Type} → (List Int) → (List Int) → (Bool → Option α) → Option α)  {α : Type} (ls : List Lf) (k : TV → List (List Seg) → List (List Seg) → Option α) :
    g22K (g22b G_g57) ls k = evFun tab (g22hd G_g57) Go.Proofs.Try.f22 (fillT g22tp ls).1 (fillB g22bp (fillT g22tp ls).2).1 k := by kernel_rfl
theorem g22Calls (m : Nat) : (g22h m).CallsOk Go.Proofs.Try.prog := (cok_cons (g57Ok m) cok_nil)
theorem g22Fn (m : Nat) : FnOk Go.Proofs.Try.prog 22 g22tp g22bp (fun {α} => g22K (g22 (α := α) m)) :=
  fn_ok (tab := tab) (h := g22h m) (fn := Go.Proofs.Try.f22) (F := fun {α} => g22K (g22 (α := α) m)) tabOk (g22Calls m) mixed (by kernel_rfl) (by kernel_rfl) (fun c hc => by
    rw [bodyOf_some hc]
    exact loopsOk_of _ (fun p hp => by rw [show loopsOf (bodyOf Go.Proofs.Try.f22) = [] by kernel_rfl] at hp; cases hp))
    (fun α ls k => g22Main (g57 m) ls k)
theorem g22Ok (m : Nat) : RowOk Go.Proofs.Try.prog 22 (fun {α} => rowK g22tp g22bp (g22K (g22 (α := α) m))) := row_of (g22Fn m)

/-! ### g23: laws.eqInt8S -/
def g23l0b {α : Type}   (m967 : Nat) (m968 : Nat) (m969 : Nat) (m970 : Nat) (m971 : Nat) (m972 : Nat) (m974 : Nat) (a975 : List Int) (m976 : Nat) (a977 : List Int) (k983 : Option α) (k984 : Option α) (r985 : Int → Option α) (v973 : Int) : Option α :=
  cond (decide (v973 < ((m968 : Nat) : Int)))
   (
    if 0 ≤ v973 ∧ v973 < (m968 : Nat) then
      if (m967 + v973.toNat) < m974 then
        if 0 ≤ v973 ∧ v973 < (m971 : Nat) then
          if (m970 + v973.toNat) < m976 then
            cond ((List.getD a975 (m967 + v973.toNat) 0) != (List.getD a977 (m970 + v973.toNat) 0))
             (
              k983)
             (
              r985 (IntKind.wrap .i64 (v973 + (1 : Int))))
          else
            none
        else
          none
      else
        none
    else
      none)
   (
    k984)
def g23l0 {α : Type}   (m967 : Nat) (m968 : Nat) (m969 : Nat) (m970 : Nat) (m971 : Nat) (m972 : Nat) (m974 : Nat) (a975 : List Int) (m976 : Nat) (a977 : List Int) (k983 : Option α) (k984 : Option α) : Nat → Int → Option α
  | 0 => fun _ => none
  | m + 1 => fun v973 => g23l0b m967 m968 m969 m970 m971 m972 m974 a975 m976 a977 k983 k984 (g23l0 m967 m968 m969 m970 m971 m972 m974 a975 m976 a977 k983 k984 m) v973
def g23l0M {α : Type} (m : Nat) : Nat → Nat → Nat → Nat → Nat → Nat → Nat → (List Int) → Nat → (List Int) → (Option α) → (Option α) → Int → Option α :=
  fun m967 m968 m969 m970 m971 m972 m974 a975 m976 a977 k983 k984 v973 => g23l0 m967 m968 m969 m970 m971 m972 m974 a975 m976 a977 k983 k984 m v973
def g23l0D : LoopD := { n := 26, sl := [0, 1, 5], bl := [0, 1], tp := [(.vl (.sv (.slc 0 0 1))), (.vl (.sv (.slc 1 0 1))), (.vl (.sv (.int .i64)))], bp := [(false, [(.seqv (.int .i8))]), (false, [(.seqv (.int .i8))])], xs := [(1, [4], [0, 1]), (2, [], [0, 1])] }
def g23l0K {α : Type} (L : Nat → Nat → Nat → Nat → Nat → Nat → Nat → (List Int) → Nat → (List Int) → (Option α) → (Option α) → Int → Option α) (ls : List Lf) (k : Ex → St → Option α) : Option α :=
  L (lf ls 0).nat (lf ls 1).nat (lf ls 2).nat (lf ls 3).nat (lf ls 4).nat (lf ls 5).nat (lf ls 7).nat ((lf ls 8).lst (.int .i8)) (lf ls 9).nat ((lf ls 10).lst (.int .i8))
    (k .ret (mkSt 26 [4] [(.vl (.sv (.bool false)))] [0, 1] [(false, [(.seq (.int .i8) (lf ls 7).nat ((lf ls 8).lst (.int .i8)))]), (false, [(.seq (.int .i8) (lf ls 9).nat ((lf ls 10).lst (.int .i8)))])]))
    (k .normal (mkSt 26 [] [] [0, 1] [(false, [(.seq (.int .i8) (lf ls 7).nat ((lf ls 8).lst (.int .i8)))]), (false, [(.seq (.int .i8) (lf ls 9).nat ((lf ls 10).lst (.int .i8)))])]))
    (lf ls 6).int
def g23b {α : Type}  (L_g23l0 : {α : Type} → Nat → Nat → Nat → Nat → Nat → Nat → Nat → (List Int) → Nat → (List Int) → (Option α) → (Option α) → Int → Option α) (m956 : Nat) (m957 : Nat) (m958 : Nat) (m959 : Nat) (m960 : Nat) (m961 : Nat) (m962 : Nat) (u963 : List Int) (m964 : Nat) (u965 : List Int) (k986 : Bool → Option α) : Option α :=
  cond (((m957 : Nat) : Int) != ((m960 : Nat) : Int))
   (
    k986 false)
   (
    L_g23l0 m956 m957 m958 m959 m960 m961 m962 u963 m964 u965
      (
        k986 false)
      (
        k986 true)
      (0 : Int))
def g23 {α : Type} (m : Nat) : Nat → Nat → Nat → Nat → Nat → Nat → Nat → (List Int) → Nat → (List Int) → (Bool → Option α) → Option α :=
  g23b (g23l0M m)
def g23tp : List TP := [(.vl (.sv (.slc 0 0 1))), (.vl (.sv (.slc 1 0 1)))]
def g23bp : List BP := [(false, [(.seqv (.int .i8))]), (false, [(.seqv (.int .i8))])]
def g23K {α : Type} (G : Nat → Nat → Nat → Nat → Nat → Nat → Nat → (List Int) → Nat → (List Int) → (Bool → Option α) → Option α) (ls : List Lf) (k : TV → List (List Seg) → List (List Seg) → Option α) : Option α :=
  G (lf ls 0).nat (lf ls 1).nat (lf ls 2).nat (lf ls 3).nat (lf ls 4).nat (lf ls 5).nat (lf ls 6).nat ((lf ls 7).lst (.int .i8)) (lf ls 8).nat ((lf ls 9).lst (.int .i8))
    (fun y0 => k (.vl (.sv (.bool y0))) [[(.seq (.int .i8) (lf ls 6).nat ((lf ls 7).lst (.int .i8)))], [(.seq (.int .i8) (lf ls 8).nat ((lf ls 9).lst (.int .i8)))]] [])
def g23hd  (L_g23l0 : {α : Type} → Nat → Nat → Nat → Nat → Nat → Nat → Nat → (List Int) → Nat → (List Int) → (Option α) → (Option α) → Int → Option α) : Hd where
  call := fun f args Bs k => none
  loop := fun id st k => cond (Nat.beq id 0) (loopH g23l0D (g23l0K L_g23l0) st k) (none)
  ro := fun f => []
def g23h (m : Nat) : Hd := g23hd (g23l0M m)
theorem g23l0Step  (L_g23l0 : {α : Type} → Nat → Nat → Nat → Nat → Nat → Nat → Nat → (List Int) → Nat → (List Int) → (Option α) → (Option α) → Int → Option α) {α : Type} (L : Nat → Nat → Nat → Nat → Nat → Nat → Nat → (List Int) → Nat → (List Int) → (Option α) → (Option α) → Int → Option α) (ls : List Lf) (k : Ex → St → Option α) :
    g23l0K (fun m967 m968 m969 m970 m971 m972 m974 a975 m976 a977 k983 k984 v973 => g23l0b m967 m968 m969 m970 m971 m972 m974 a975 m976 a977 k983 k984 (L m967 m968 m969 m970 m971 m972 m974 a975 m976 a977 k983 k984) v973) ls k = ev tab (g23hd L_g23l0) (bodyAt Go.Proofs.Try.f23 0) (atHead g23l0D ls) (loopK g23l0D 0 (loopH g23l0D (g23l0K L)) k) := by kernel_rfl
theorem g23Main  (L_g23l0 : {α : Type} → Nat → Nat → Nat → Nat → Nat → Nat → Nat → (List Int) → Nat → (List Int) → (Option α) → (Option α) → Int → Option α) {α : Type} (ls : List Lf) (k : TV → List (List Seg) → List (List Seg) → Option α) :
    g23K (g23b L_g23l0) ls k = evFun tab (g23hd L_g23l0) Go.Proofs.Try.f23 (fillT g23tp ls).1 (fillB g23bp (fillT g23tp ls).2).1 k := by kernel_rfl
theorem g23Calls (m : Nat) : (g23h m).CallsOk Go.Proofs.Try.prog := cok_nil
theorem g23l0Ok (m : Nat) (α : Type) (st : St) (k : Ex → St → Option α) (r : α) (h : (g23h m).loop 0 st k = some r) :
    ∃ e st', k e st' = some r ∧ CodeS Go.Proofs.Try.prog (.block 0 (.loop (bodyAt Go.Proofs.Try.f23 0))) st e st' :=
  loop_ok (tab := tab) (h := g23h m) (F := fun n ls k => g23l0K (fun m967 m968 m969 m970 m971 m972 m974 a975 m976 a977 k983 k984 v973 => g23l0 m967 m968 m969 m970 m971 m972 m974 a975 m976 a977 k983 k984 n v973) ls k) tabOk (g23Calls m) mixed (loopsOk_of _ (fun p hp => by rw [show loopsOf (bodyAt Go.Proofs.Try.f23 0) = [] by kernel_rfl] at hp; cases hp))
    (fun _ _ => rfl) (fun n ls k => g23l0Step (g23l0M m) (fun m967 m968 m969 m970 m971 m972 m974 a975 m976 a977 k983 k984 => g23l0 m967 m968 m969 m970 m971 m972 m974 a975 m976 a977 k983 k984 n) ls k) (n := m) h
theorem g23Fn (m : Nat) : FnOk Go.Proofs.Try.prog 23 g23tp g23bp (fun {α} => g23K (g23 (α := α) m)) :=
  fn_ok (tab := tab) (h := g23h m) (fn := Go.Proofs.Try.f23) (F := fun {α} => g23K (g23 (α := α) m)) tabOk (g23Calls m) mixed (by kernel_rfl) (by kernel_rfl) (fun c hc => by
    rw [bodyOf_some hc]
    exact loopsOk_of _ (fun p hp => by
    rw [show loopsOf (bodyOf Go.Proofs.Try.f23) = [(0, bodyAt Go.Proofs.Try.f23 0)] by kernel_rfl] at hp
    simp only [List.mem_cons, List.not_mem_nil, or_false] at hp
    rcases hp with rfl
    exact g23l0Ok m))
    (fun α ls k => g23Main (g23l0M m) ls k)
theorem g23Ok (m : Nat) : RowOk Go.Proofs.Try.prog 23 (fun {α} => rowK g23tp g23bp (g23K (g23 (α := α) m))) := row_of (g23Fn m)

/-! ### g5: laws.FnExactValueOfDigits -/
def g5b {α : Type} (G_g19 : {α : Type} → Bool → (List Int) → ((List Int) → Option α) → Option α) (G_g20 : {α : Type} → Nat → Nat → Nat → Nat → (List Int) → ((List Int) → Option α) → Option α) (G_g18 : {α : Type} → Bool → (List Int) → Nat → Nat → Nat → Nat → (List Int) → (Bool → (List Int) → Int → Option α) → Option α) (G_g21 : {α : Type} → Bool → (List Int) → Nat → Nat → Nat → Nat → (List Int) → (Bool → (List Int) → Int → Option α) → Option α) (G_g22 : {α : Type} → Bool → (List Int) → Bool → (List Int) → (Bool → Option α) → Option α) (G_g23 : {α : Type} → Nat → Nat → Nat → Nat → Nat → Nat → Nat → (List Int) → Nat → (List Int) → (Bool → Option α) → Option α)  (q416 : Bool) (u417 : List Int) (m418 : Nat) (m419 : Nat) (m420 : Nat) (m421 : Nat) (u422 : List Int) (k989 : Bool → Option α) : Option α :=
  cond (decide (((m419 : Nat) : Int) > (1048576 : Int)))
   (
    k989 true)
   (
    G_g19 q416 u417
      (fun l441 =>
        G_g20 m418 m419 m420 m421 u422
          (fun l467 =>
            G_g18 q416 l441 0 m419 m419 m419 l467
              (fun b656 l657 x658 =>
                G_g20 m418 m419 m420 m421 u422
                  (fun l659 =>
                    G_g19 q416 u417
                      (fun l660 =>
                        G_g21 q416 l660 0 m419 m419 m419 l659
                          (fun b927 l928 x929 =>
                            G_g22 b927 l928 b656 l657
                              (fun b952 =>
                                cond (!b952)
                                 (
                                  k989 false)
                                 (
                                  cond (x929 != x658)
                                   (
                                    k989 false)
                                   (
                                    G_g20 m418 m419 m420 m421 u422
                                      (fun l955 =>
                                        G_g23 0 m419 m419 0 m419 m419 m419 l659 m419 l955
                                          (fun b987 =>
                                            cond (!b987)
                                             (
                                              k989 false)
                                             (
                                              k989 true)))))))))))))
def g5 {α : Type} (m : Nat) : Bool → (List Int) → Nat → Nat → Nat → Nat → (List Int) → (Bool → Option α) → Option α :=
  g5b (g19 m) (g20 m) (g18 m) (g21 m) (g22 m) (g23 m)
def g5tp : List TP := [(.vl (.agg [(.one .bool), (.seq (.int .u32) 6)])), (.vl (.sv (.slc 0 0 1)))]
def g5bp : List BP := [(false, [(.seqv (.int .i8))])]
def g5K {α : Type} (G : Bool → (List Int) → Nat → Nat → Nat → Nat → (List Int) → (Bool → Option α) → Option α) (ls : List Lf) (k : TV → List (List Seg) → List (List Seg) → Option α) : Option α :=
  G (lf ls 0).bool ((lf ls 1).lst (.int .u32)) (lf ls 2).nat (lf ls 3).nat (lf ls 4).nat (lf ls 5).nat ((lf ls 6).lst (.int .i8))
    (fun y0 => k (.vl (.sv (.bool y0))) [[(.seq (.int .i8) (lf ls 5).nat ((lf ls 6).lst (.int .i8)))]] [])
def g5hd (G_g19 : {α : Type} → Bool → (List Int) → ((List Int) → Option α) → Option α) (G_g20 : {α : Type} → Nat → Nat → Nat → Nat → (List Int) → ((List Int) → Option α) → Option α) (G_g18 : {α : Type} → Bool → (List Int) → Nat → Nat → Nat → Nat → (List Int) → (Bool → (List Int) → Int → Option α) → Option α) (G_g21 : {α : Type} → Bool → (List Int) → Nat → Nat → Nat → Nat → (List Int) → (Bool → (List Int) → Int → Option α) → Option α) (G_g22 : {α : Type} → Bool → (List Int) → Bool → (List Int) → (Bool → Option α) → Option α) (G_g23 : {α : Type} → Nat → Nat → Nat → Nat → Nat → Nat → Nat → (List Int) → Nat → (List Int) → (Bool → Option α) → Option α)  : Hd where
  call := fun f args Bs k => cond (Nat.beq f 19) (rowK g19tp g19bp (g19K G_g19) args Bs k) (cond (Nat.beq f 20) (rowK g20tp g20bp (g20K G_g20) args Bs k) (cond (Nat.beq f 18) (rowK g18tp g18bp (g18K G_g18) args Bs k) (cond (Nat.beq f 21) (rowK g21tp g21bp (g21K G_g21) args Bs k) (cond (Nat.beq f 22) (rowK g22tp g22bp (g22K G_g22) args Bs k) (cond (Nat.beq f 23) (rowK g23tp g23bp (g23K G_g23) args Bs k) (none))))))
  loop := fun id st k => none
  ro := fun f => cond (Nat.beq f 18) [0] (cond (Nat.beq f 20) [0] (cond (Nat.beq f 21) [0] (cond (Nat.beq f 23) [0, 1] ([]))))
def g5h (m : Nat) : Hd := g5hd (g19 m) (g20 m) (g18 m) (g21 m) (g22 m) (g23 m)
theorem g5Main (G_g19 : {α : Type} → Bool → (List Int) → ((List Int) → Option α) → Option α) (G_g20 : {α : Type} → Nat → Nat → Nat → Nat → (List Int) → ((List Int) → Option α) → Option α) (G_g18 : {α : Type} → Bool → (List Int) → Nat → Nat → Nat → Nat → (List Int) → (Bool → (List Int) → Int → Option α) → Option α) (G_g21 : {α : Type} → Bool → (List Int) → Nat → Nat → Nat → Nat → (List Int) → (Bool → (List Int) → Int → Option α) → Option α) (G_g22 : {α : Type} → Bool → (List Int) → Bool → (List Int) → (Bool → Option α) → Option α) (G_g23 : {α : Type} → Nat → Nat → Nat → Nat → Nat → Nat → Nat → (List Int) → Nat → (List Int) → (Bool → Option α) → Option α)  {α : Type} (ls : List Lf) (k : TV → List (List Seg) → List (List Seg) → Option α) :
    g5K (g5b G_g19 G_g20 G_g18 G_g21 G_g22 G_g23) ls k = evFun tab (g5hd G_g19 G_g20 G_g18 G_g21 G_g22 G_g23) Go.Proofs.Try.f5 (fillT g5tp ls).1 (fillB g5bp (fillT g5tp ls).2).1 k := by kernel_rfl
theorem g5Calls (m : Nat) : (g5h m).CallsOk Go.Proofs.Try.prog := (cok_cons (g19Ok m) (cok_cons (g20Ok m) (cok_cons (g18Ok m) (cok_cons (g21Ok m) (cok_cons (g22Ok m) (cok_cons (g23Ok m) cok_nil))))))
theorem g5Fn (m : Nat) : FnOk Go.Proofs.Try.prog 5 g5tp g5bp (fun {α} => g5K (g5 (α := α) m)) :=
  fn_ok (tab := tab) (h := g5h m) (fn := Go.Proofs.Try.f5) (F := fun {α} => g5K (g5 (α := α) m)) tabOk (g5Calls m) mixed (by kernel_rfl) (by kernel_rfl) (fun c hc => by
    rw [bodyOf_some hc]
    exact loopsOk_of _ (fun p hp => by rw [show loopsOf (bodyOf Go.Proofs.Try.f5) = [] by kernel_rfl] at hp; cases hp))
    (fun α ls k => g5Main (g19 m) (g20 m) (g18 m) (g21 m) (g22 m) (g23 m) ls k)
theorem g5Ok (m : Nat) : RowOk Go.Proofs.Try.prog 5 (fun {α} => rowK g5tp g5bp (g5K (g5 (α := α) m))) := row_of (g5Fn m)

/-! ### g58: spec.l02Places -/
def g58b {α : Type} (G_g81 : {α : Type} → Int → Int → Int → (Bool → Option α) → Option α)  (p1008 : Int) (k1010 : Bool → Option α) : Option α :=
  G_g81 p1008 (0 : Int) (64 : Int)
    (fun b1009 =>
      k1010 b1009)
def g58 {α : Type} (m : Nat) : Int → (Bool → Option α) → Option α :=
  g58b (g81 m)
def g58tp : List TP := [(.vl (.sv (.int .i64)))]
def g58bp : List BP := []
def g58K {α : Type} (G : Int → (Bool → Option α) → Option α) (ls : List Lf) (k : TV → List (List Seg) → List (List Seg) → Option α) : Option α :=
  G (lf ls 0).int
    (fun y0 => k (.vl (.sv (.bool y0))) [] [])
def g58hd (G_g81 : {α : Type} → Int → Int → Int → (Bool → Option α) → Option α)  : Hd where
  call := fun f args Bs k => cond (Nat.beq f 81) (rowK g81tp g81bp (g81K G_g81) args Bs k) (none)
  loop := fun id st k => none
  ro := fun f => []
def g58h (m : Nat) : Hd := g58hd (g81 m)
theorem g58Main (G_g81 : {α : Type} → Int → Int → Int → (Bool → Option α) → Option α)  {α : Type} (ls : List Lf) (k : TV → List (List Seg) → List (List Seg) → Option α) :
    g58K (g58b G_g81) ls k = evFun tab (g58hd G_g81) Go.Proofs.Try.f58 (fillT g58tp ls).1 (fillB g58bp (fillT g58tp ls).2).1 k := by kernel_rfl
theorem g58Calls (m : Nat) : (g58h m).CallsOk Go.Proofs.Try.prog := (cok_cons (g81Ok m) cok_nil)
theorem g58Fn (m : Nat) : FnOk Go.Proofs.Try.prog 58 g58tp g58bp (fun {α} => g58K (g58 (α := α) m)) :=
  fn_ok (tab := tab) (h := g58h m) (fn := Go.Proofs.Try.f58) (F := fun {α} => g58K (g58 (α := α) m)) tabOk (g58Calls m) mixed (by kernel_rfl) (by kernel_rfl) (fun c hc => by
    rw [bodyOf_some hc]
    exact loopsOk_of _ (fun p hp => by rw [show loopsOf (bodyOf Go.Proofs.Try.f58) = [] by kernel_rfl] at hp; cases hp))
    (fun α ls k => g58Main (g81 m) ls k)
theorem g58Ok (m : Nat) : RowOk Go.Proofs.Try.prog 58 (fun {α} => rowK g58tp g58bp (g58K (g58 (α := α) m))) := row_of (g58Fn m)

/-! ### g101: spec.l01Bits -/
def g101l2b {α : Type}   (v1028 : Int) (a1031 : List Int) (k1035 : Int → Option α) (r1036 : Int → Int → Option α) (v1029 : Int) (v1030 : Int) : Option α :=
  cond (decide (v1030 > (0 : Int)))
   (
    r1036 (IntKind.wrap .i64 (v1029 + (1 : Int))) (Int.fdiv v1030 (2 ^ 1)))
   (
    k1035 v1029)
def g101l2 {α : Type}   (v1028 : Int) (a1031 : List Int) (k1035 : Int → Option α) : Nat → Int → Int → Option α
  | 0 => fun _ _ => none
  | m + 1 => fun v1029 v1030 => g101l2b v1028 a1031 k1035 (g101l2 v1028 a1031 k1035 m) v1029 v1030
def g101l2M {α : Type} (m : Nat) : Int → (List Int) → (Int → Option α) → Int → Int → Option α :=
  fun v1028 a1031 k1035 v1029 v1030 => g101l2 v1028 a1031 k1035 m v1029 v1030
def g101l2D : LoopD := { n := 31, sl := [3, 4, 5], bl := [0], tp := [(.vl (.sv (.int .i64))), (.vl (.sv (.int .i64))), (.vl (.sv (.int .u32)))], bp := [(false, [(.seq (.int .u32) 6)])], xs := [(4, [3, 4], [0])] }
def g101l2K {α : Type} (L : Int → (List Int) → (Int → Option α) → Int → Int → Option α) (ls : List Lf) (k : Ex → St → Option α) : Option α :=
  L (lf ls 0).int ((lf ls 3).lst (.int .u32))
    (fun y1 => k .normal (mkSt 31 [3, 4] [(.vl (.sv (.int .i64 (lf ls 0).int))), (.vl (.sv (.int .i64 y1)))] [0] [(false, [(.seq (.int .u32) 6 ((lf ls 3).lst (.int .u32)))])]))
    (lf ls 1).int (lf ls 2).int
def g101l0b {α : Type}  (L_g101l2 : {α : Type} → Int → (List Int) → (Int → Option α) → Int → Int → Option α) (a1022 : List Int) (k1040 : Int → Option α) (k1041 : Option α) (r1042 : Int → Option α) (v1021 : Int) : Option α :=
  cond (decide (v1021 ≥ (0 : Int)))
   (
    if 0 ≤ v1021 ∧ v1021 < (6 : Nat) then
      if v1021.toNat < 6 then
        cond ((List.getD a1022 v1021.toNat 0) == (0 : Int))
         (
          r1042 (IntKind.wrap .i64 (v1021 - (1 : Int))))
         (
          if 0 ≤ v1021 ∧ v1021 < (6 : Nat) then
            if v1021.toNat < 6 then
              L_g101l2 v1021 a1022
                (fun x1037 =>
                  k1040 (IntKind.wrap .i64 ((IntKind.wrap .i64 ((32 : Int) * v1021)) + x1037)))
                (0 : Int) (List.getD a1022 v1021.toNat 0)
            else
              none
          else
            none)
      else
        none
    else
      none)
   (
    k1041)
def g101l0 {α : Type}  (L_g101l2 : {α : Type} → Int → (List Int) → (Int → Option α) → Int → Int → Option α) (a1022 : List Int) (k1040 : Int → Option α) (k1041 : Option α) : Nat → Int → Option α
  | 0 => fun _ => none
  | m + 1 => fun v1021 => g101l0b L_g101l2 a1022 k1040 k1041 (g101l0 L_g101l2 a1022 k1040 k1041 m) v1021
def g101l0M {α : Type} (m : Nat) : (List Int) → (Int → Option α) → (Option α) → Int → Option α :=
  fun a1022 k1040 k1041 v1021 => g101l0 (g101l2M m) a1022 k1040 k1041 m v1021
def g101l0D : LoopD := { n := 31, sl := [0, 3], bl := [0], tp := [(.vl (.sv (.ptr 0 0))), (.vl (.sv (.int .i64)))], bp := [(false, [(.seq (.int .u32) 6)])], xs := [(1, [2], [0]), (2, [], [0])] }
def g101l0K {α : Type} (L : (List Int) → (Int → Option α) → (Option α) → Int → Option α) (ls : List Lf) (k : Ex → St → Option α) : Option α :=
  L ((lf ls 1).lst (.int .u32))
    (fun y0 => k .ret (mkSt 31 [2] [(.vl (.sv (.int .i64 y0)))] [0] [(false, [(.seq (.int .u32) 6 ((lf ls 1).lst (.int .u32)))])]))
    (k .normal (mkSt 31 [] [] [0] [(false, [(.seq (.int .u32) 6 ((lf ls 1).lst (.int .u32)))])]))
    (lf ls 0).int
def g101b {α : Type}  (L_g101l2 : {α : Type} → Int → (List Int) → (Int → Option α) → Int → Int → Option α) (L_g101l0 : {α : Type} → (List Int) → (Int → Option α) → (Option α) → Int → Option α) (u1020 : List Int) (k1044 : Int → Option α) : Option α :=
  L_g101l0 u1020
    (fun x1043 =>
      k1044 x1043)
    (
      k1044 (0 : Int))
    (5 : Int)
def g101 {α : Type} (m : Nat) : (List Int) → (Int → Option α) → Option α :=
  g101b (g101l2M m) (g101l0M m)
def g101tp : List TP := [(.vl (.sv (.ptr 0 0)))]
def g101bp : List BP := [(false, [(.seq (.int .u32) 6)])]
def g101K {α : Type} (G : (List Int) → (Int → Option α) → Option α) (ls : List Lf) (k : TV → List (List Seg) → List (List Seg) → Option α) : Option α :=
  G ((lf ls 0).lst (.int .u32))
    (fun y0 => k (.vl (.sv (.int .i64 y0))) [[(.seq (.int .u32) 6 ((lf ls 0).lst (.int .u32)))]] [])
def g101hd  (L_g101l2 : {α : Type} → Int → (List Int) → (Int → Option α) → Int → Int → Option α) (L_g101l0 : {α : Type} → (List Int) → (Int → Option α) → (Option α) → Int → Option α) : Hd where
  call := fun f args Bs k => none
  loop := fun id st k => cond (Nat.beq id 2) (loopH g101l2D (g101l2K L_g101l2) st k) (cond (Nat.beq id 0) (loopH g101l0D (g101l0K L_g101l0) st k) (none))
  ro := fun f => []
def g101h (m : Nat) : Hd := g101hd (g101l2M m) (g101l0M m)
theorem g101l2Step  (L_g101l2 : {α : Type} → Int → (List Int) → (Int → Option α) → Int → Int → Option α) (L_g101l0 : {α : Type} → (List Int) → (Int → Option α) → (Option α) → Int → Option α) {α : Type} (L : Int → (List Int) → (Int → Option α) → Int → Int → Option α) (ls : List Lf) (k : Ex → St → Option α) :
    g101l2K (fun v1028 a1031 k1035 v1029 v1030 => g101l2b v1028 a1031 k1035 (L v1028 a1031 k1035) v1029 v1030) ls k = ev tab (g101hd L_g101l2 L_g101l0) (bodyAt Go.Proofs.Try.f101 2) (atHead g101l2D ls) (loopK g101l2D 2 (loopH g101l2D (g101l2K L)) k) := by kernel_rfl
theorem g101l0Step  (L_g101l2 : {α : Type} → Int → (List Int) → (Int → Option α) → Int → Int → Option α) (L_g101l0 : {α : Type} → (List Int) → (Int → Option α) → (Option α) → Int → Option α) {α : Type} (L : (List Int) → (Int → Option α) → (Option α) → Int → Option α) (ls : List Lf) (k : Ex → St → Option α) :
    g101l0K (fun a1022 k1040 k1041 v1021 => g101l0b L_g101l2 a1022 k1040 k1041 (L a1022 k1040 k1041) v1021) ls k = ev tab (g101hd L_g101l2 L_g101l0) (bodyAt Go.Proofs.Try.f101 0) (atHead g101l0D ls) (loopK g101l0D 0 (loopH g101l0D (g101l0K L)) k) := by kernel_rfl
theorem g101Main  (L_g101l2 : {α : Type} → Int → (List Int) → (Int → Option α) → Int → Int → Option α) (L_g101l0 : {α : Type} → (List Int) → (Int → Option α) → (Option α) → Int → Option α) {α : Type} (ls : List Lf) (k : TV → List (List Seg) → List (List Seg) → Option α) :
    g101K (g101b L_g101l2 L_g101l0) ls k = evFun tab (g101hd L_g101l2 L_g101l0) Go.Proofs.Try.f101 (fillT g101tp ls).1 (fillB g101bp (fillT g101tp ls).2).1 k := by kernel_rfl
theorem g101Calls (m : Nat) : (g101h m).CallsOk Go.Proofs.Try.prog := cok_nil
theorem g101l2Ok (m : Nat) (α : Type) (st : St) (k : Ex → St → Option α) (r : α) (h : (g101h m).loop 2 st k = some r) :
    ∃ e st', k e st' = some r ∧ CodeS Go.Proofs.Try.prog (.block 2 (.loop (bodyAt Go.Proofs.Try.f101 2))) st e st' :=
  loop_ok (tab := tab) (h := g101h m) (F := fun n ls k => g101l2K (fun v1028 a1031 k1035 v1029 v1030 => g101l2 v1028 a1031 k1035 n v1029 v1030) ls k) tabOk (g101Calls m) mixed (loopsOk_of _ (fun p hp => by rw [show loopsOf (bodyAt Go.Proofs.Try.f101 2) = [] by kernel_rfl] at hp; cases hp))
    (fun _ _ => rfl) (fun n ls k => g101l2Step (g101l2M m) (g101l0M m) (fun v1028 a1031 k1035 => g101l2 v1028 a1031 k1035 n) ls k) (n := m) h
theorem g101l0Ok (m : Nat) (α : Type) (st : St) (k : Ex → St → Option α) (r : α) (h : (g101h m).loop 0 st k = some r) :
    ∃ e st', k e st' = some r ∧ CodeS Go.Proofs.Try.prog (.block 0 (.loop (bodyAt Go.Proofs.Try.f101 0))) st e st' :=
  loop_ok (tab := tab) (h := g101h m) (F := fun n ls k => g101l0K (fun a1022 k1040 k1041 v1021 => g101l0 (g101l2M m) a1022 k1040 k1041 n v1021) ls k) tabOk (g101Calls m) mixed (loopsOk_of _ (fun p hp => by
    rw [show loopsOf (bodyAt Go.Proofs.Try.f101 0) = [(2, bodyAt Go.Proofs.Try.f101 2)] by kernel_rfl] at hp
    simp only [List.mem_cons, List.not_mem_nil, or_false] at hp
    rcases hp with rfl
    exact g101l2Ok m))
    (fun _ _ => rfl) (fun n ls k => g101l0Step (g101l2M m) (g101l0M m) (fun a1022 k1040 k1041 => g101l0 (g101l2M m) a1022 k1040 k1041 n) ls k) (n := m) h
theorem g101Fn (m : Nat) : FnOk Go.Proofs.Try.prog 101 g101tp g101bp (fun {α} => g101K (g101 (α := α) m)) :=
  fn_ok (tab := tab) (h := g101h m) (fn := Go.Proofs.Try.f101) (F := fun {α} => g101K (g101 (α := α) m)) tabOk (g101Calls m) mixed (by kernel_rfl) (by kernel_rfl) (fun c hc => by
    rw [bodyOf_some hc]
    exact loopsOk_of _ (fun p hp => by
    rw [show loopsOf (bodyOf Go.Proofs.Try.f101) = [(0, bodyAt Go.Proofs.Try.f101 0)] by kernel_rfl] at hp
    simp only [List.mem_cons, List.not_mem_nil, or_false] at hp
    rcases hp with rfl
    exact g101l0Ok m))
    (fun α ls k => g101Main (g101l2M m) (g101l0M m) ls k)
theorem g101Ok (m : Nat) : RowOk Go.Proofs.Try.prog 101 (fun {α} => rowK g101tp g101bp (g101K (g101 (α := α) m))) := row_of (g101Fn m)

/-! ### g87: spec.l01UpMag -/
def g87l0b {α : Type}   (v1050 : Int) (a1052 : List Int) (a1053 : List Int) (k1078 : (List Int) → Option α) (r1079 : Int → (List Int) → Option α) (v1051 : Int) (a1054 : List Int) : Option α :=
  cond (decide (v1051 < (6 : Int)))
   (
    let x1057 : Int := IntKind.wrap .i64 (v1051 + (IntKind.wrap .i64 (Int.tdiv v1050 (32 : Int))))
    cond (decide (x1057 ≥ (6 : Int)))
     (
      k1078 a1054)
     (
      if 0 ≤ v1051 ∧ v1051 < (6 : Nat) then
        if v1051.toNat < 6 then
          let x1062 : Int := IntKind.wrap .u64 (Int.tmod v1050 (32 : Int))
          if x1062 < 0 then
            none
          else
            let x1063 : Int := IntKind.wrap .u64 ((IntKind.wrap .u64 (List.getD a1052 v1051.toNat 0)) * 2 ^ (min x1062.toNat 64))
            if 0 ≤ x1057 ∧ x1057 < (6 : Nat) then
              if x1057.toNat < 6 then
                if 0 ≤ x1057 ∧ x1057 < (6 : Nat) then
                  if x1057.toNat < 6 then
                    let l1067 : List Int := List.set a1054 (x1057.toNat) (ibits .or .u32 (List.getD a1054 x1057.toNat 0) (IntKind.wrap .u32 x1063))
                    cond (decide ((IntKind.wrap .i64 (x1057 + (1 : Int))) < (6 : Int)))
                     (
                      let x1070 : Int := IntKind.wrap .i64 (x1057 + (1 : Int))
                      if 0 ≤ x1070 ∧ x1070 < (6 : Nat) then
                        if x1070.toNat < 6 then
                          if 0 ≤ x1070 ∧ x1070 < (6 : Nat) then
                            if x1070.toNat < 6 then
                              r1079 (IntKind.wrap .i64 (v1051 + (1 : Int))) (List.set l1067 (x1070.toNat) (ibits .or .u32 (List.getD l1067 x1070.toNat 0) (IntKind.wrap .u32 (Int.fdiv x1063 (2 ^ 32)))))
                            else
                              none
                          else
                            none
                        else
                          none
                      else
                        none)
                     (
                      r1079 (IntKind.wrap .i64 (v1051 + (1 : Int))) l1067)
                  else
                    none
                else
                  none
              else
                none
            else
              none
        else
          none
      else
        none))
   (
    k1078 a1054)
def g87l0 {α : Type}   (v1050 : Int) (a1052 : List Int) (a1053 : List Int) (k1078 : (List Int) → Option α) : Nat → Int → (List Int) → Option α
  | 0 => fun _ _ => none
  | m + 1 => fun v1051 a1054 => g87l0b v1050 a1052 a1053 k1078 (g87l0 v1050 a1052 a1053 k1078 m) v1051 a1054
def g87l0M {α : Type} (m : Nat) : Int → (List Int) → (List Int) → ((List Int) → Option α) → Int → (List Int) → Option α :=
  fun v1050 a1052 a1053 k1078 v1051 a1054 => g87l0 v1050 a1052 a1053 k1078 m v1051 a1054
def g87l0D : LoopD := { n := 62, sl := [0, 1, 4, 6, 7], bl := [0, 1004, 1006], tp := [(.vl (.sv (.ptr 0 0))), (.vl (.sv (.int .i64))), (.vl (.sv (.ptr 1004 0))), (.vl (.sv (.ptr 1006 0))), (.vl (.sv (.int .i64)))], bp := [(false, [(.seq (.int .u32) 6)]), (true, [(.seq (.int .u32) 6)]), (true, [(.seq (.int .u32) 6)])], xs := [(2, [4, 6], [0, 1004, 1006])] }
def g87l0K {α : Type} (L : Int → (List Int) → (List Int) → ((List Int) → Option α) → Int → (List Int) → Option α) (ls : List Lf) (k : Ex → St → Option α) : Option α :=
  L (lf ls 0).int ((lf ls 2).lst (.int .u32)) ((lf ls 3).lst (.int .u32))
    (fun y2 => k .normal (mkSt 62 [4, 6] [(.vl (.sv (.ptr 1004 0))), (.vl (.sv (.ptr 1006 0)))] [0, 1004, 1006] [(false, [(.seq (.int .u32) 6 ((lf ls 2).lst (.int .u32)))]), (true, [(.seq (.int .u32) 6 ((lf ls 3).lst (.int .u32)))]), (true, [(.seq (.int .u32) 6 y2)])]))
    (lf ls 1).int ((lf ls 4).lst (.int .u32))
def g87b {α : Type} (G_g101 : {α : Type} → (List Int) → (Int → Option α) → Option α) (G_g102 : {α : Type} → (List Int) → (Bool → Option α) → Option α) (L_g87l0 : {α : Type} → Int → (List Int) → (List Int) → ((List Int) → Option α) → Int → (List Int) → Option α) (p1018 : Int) (u1019 : List Int) (k1082 : (List Int) → Bool → Option α) : Option α :=
  G_g101 u1019
    (fun x1045 =>
      cond (decide ((IntKind.wrap .i64 (x1045 + p1018)) > (192 : Int)))
       (
        G_g102 u1019
          (fun b1048 =>
            cond (!b1048)
             (
              k1082 [0, 0, 0, 0, 0, 0] false)
             (
              L_g87l0 p1018 u1019 [0, 0, 0, 0, 0, 0]
                (fun l1080 =>
                  k1082 l1080 true)
                (0 : Int) [0, 0, 0, 0, 0, 0])))
       (
        L_g87l0 p1018 u1019 [0, 0, 0, 0, 0, 0]
          (fun l1081 =>
            k1082 l1081 true)
          (0 : Int) [0, 0, 0, 0, 0, 0]))
def g87 {α : Type} (m : Nat) : Int → (List Int) → ((List Int) → Bool → Option α) → Option α :=
  g87b (g101 m) (g102 m) (g87l0M m)
def g87tp : List TP := [(.vl (.sv (.ptr 0 0))), (.vl (.sv (.int .i64)))]
def g87bp : List BP := [(false, [(.seq (.int .u32) 6)])]
def g87K {α : Type} (G : Int → (List Int) → ((List Int) → Bool → Option α) → Option α) (ls : List Lf) (k : TV → List (List Seg) → List (List Seg) → Option α) : Option α :=
  G (lf ls 0).int ((lf ls 1).lst (.int .u32))
    (fun y0 y1 => k (.tup [(.agg [(.seq (.int .u32) 6 y0)]), (.sv (.bool y1))]) [[(.seq (.int .u32) 6 ((lf ls 1).lst (.int .u32)))]] [])
def g87hd (G_g101 : {α : Type} → (List Int) → (Int → Option α) → Option α) (G_g102 : {α : Type} → (List Int) → (Bool → Option α) → Option α) (L_g87l0 : {α : Type} → Int → (List Int) → (List Int) → ((List Int) → Option α) → Int → (List Int) → Option α) : Hd where
  call := fun f args Bs k => cond (Nat.beq f 101) (rowK g101tp g101bp (g101K G_g101) args Bs k) (cond (Nat.beq f 102) (rowK g102tp g102bp (g102K G_g102) args Bs k) (none))
  loop := fun id st k => cond (Nat.beq id 0) (loopH g87l0D (g87l0K L_g87l0) st k) (none)
  ro := fun f => cond (Nat.beq f 101) [0] (cond (Nat.beq f 102) [0] ([]))
def g87h (m : Nat) : Hd := g87hd (g101 m) (g102 m) (g87l0M m)
theorem g87l0Step (G_g101 : {α : Type} → (List Int) → (Int → Option α) → Option α) (G_g102 : {α : Type} → (List Int) → (Bool → Option α) → Option α) (L_g87l0 : {α : Type} → Int → (List Int) → (List Int) → ((List Int) → Option α) → Int → (List Int) → Option α) {α : Type} (L : Int → (List Int) → (List Int) → ((List Int) → Option α) → Int → (List Int) → Option α) (ls : List Lf) (k : Ex → St → Option α) :
    g87l0K (fun v1050 a1052 a1053 k1078 v1051 a1054 => g87l0b v1050 a1052 a1053 k1078 (L v1050 a1052 a1053 k1078) v1051 a1054) ls k = ev tab (g87hd G_g101 G_g102 L_g87l0) (bodyAt Go.Proofs.Try.f87 0) (atHead g87l0D ls) (loopK g87l0D 0 (loopH g87l0D (g87l0K L)) k) := by kernel_rfl
theorem g87Main (G_g101 : {α : Type} → (List Int) → (Int → Option α) → Option α) (G_g102 : {α : Type} → (List Int) → (Bool → Option α) → Option α) (L_g87l0 : {α : Type} → Int → (List Int) → (List Int) → ((List Int) → Option α) → Int → (List Int) → Option α) {α : Type} (ls : List Lf) (k : TV → List (List Seg) → List (List Seg) → Option α) :
    g87K (g87b G_g101 G_g102 L_g87l0) ls k = evFun tab (g87hd G_g101 G_g102 L_g87l0) Go.Proofs.Try.f87 (fillT g87tp ls).1 (fillB g87bp (fillT g87tp ls).2).1 k := by kernel_rfl
theorem g87Calls (m : Nat) : (g87h m).CallsOk Go.Proofs.Try.prog := (cok_cons (g101Ok m) (cok_cons (g102Ok m) cok_nil))
theorem g87l0Ok (m : Nat) (α : Type) (st : St) (k : Ex → St → Option α) (r : α) (h : (g87h m).loop 0 st k = some r) :
    ∃ e st', k e st' = some r ∧ CodeS Go.Proofs.Try.prog (.block 0 (.loop (bodyAt Go.Proofs.Try.f87 0))) st e st' :=
  loop_ok (tab := tab) (h := g87h m) (F := fun n ls k => g87l0K (fun v1050 a1052 a1053 k1078 v1051 a1054 => g87l0 v1050 a1052 a1053 k1078 n v1051 a1054) ls k) tabOk (g87Calls m) mixed (loopsOk_of _ (fun p hp => by rw [show loopsOf (bodyAt Go.Proofs.Try.f87 0) = [] by kernel_rfl] at hp; cases hp))
    (fun _ _ => rfl) (fun n ls k => g87l0Step (g101 m) (g102 m) (g87l0M m) (fun v1050 a1052 a1053 k1078 => g87l0 v1050 a1052 a1053 k1078 n) ls k) (n := m) h
theorem g87Fn (m : Nat) : FnOk Go.Proofs.Try.prog 87 g87tp g87bp (fun {α} => g87K (g87 (α := α) m)) :=
  fn_ok (tab := tab) (h := g87h m) (fn := Go.Proofs.Try.f87) (F := fun {α} => g87K (g87 (α := α) m)) tabOk (g87Calls m) mixed (by kernel_rfl) (by kernel_rfl) (fun c hc => by
    rw [bodyOf_some hc]
    exact loopsOk_of _ (fun p hp => by
    rw [show loopsOf (bodyOf Go.Proofs.Try.f87) = [(0, bodyAt Go.Proofs.Try.f87 0)] by kernel_rfl] at hp
    simp only [List.mem_cons, List.not_mem_nil, or_false] at hp
    rcases hp with rfl
    exact g87l0Ok m))
    (fun α ls k => g87Main (g101 m) (g102 m) (g87l0M m) ls k)
theorem g87Ok (m : Nat) : RowOk Go.Proofs.Try.prog 87 (fun {α} => rowK g87tp g87bp (g87K (g87 (α := α) m))) := row_of (g87Fn m)

/-! ### g59: spec.l01Up -/
def g59b {α : Type} (G_g87 : {α : Type} → Int → (List Int) → ((List Int) → Bool → Option α) → Option α) (G_g88 : {α : Type} → Bool → (List Int) → (Bool → Option α) → Option α)  (q1015 : Bool) (u1016 : List Int) (p1017 : Int) (k1087 : Bool → (List Int) → Int → Option α) : Option α :=
  G_g87 p1017 u1016
    (fun l1083 b1084 =>
      cond (!b1084)
       (
        k1087 false [0, 0, 0, 0, 0, 0] (3 : Int))
       (
        G_g88 q1015 l1083
          (fun b1086 =>
            k1087 b1086 l1083 (0 : Int))))
def g59 {α : Type} (m : Nat) : Bool → (List Int) → Int → (Bool → (List Int) → Int → Option α) → Option α :=
  g59b (g87 m) (g88 m)
def g59tp : List TP := [(.vl (.agg [(.one .bool), (.seq (.int .u32) 6)])), (.vl (.sv (.int .i64)))]
def g59bp : List BP := []
def g59K {α : Type} (G : Bool → (List Int) → Int → (Bool → (List Int) → Int → Option α) → Option α) (ls : List Lf) (k : TV → List (List Seg) → List (List Seg) → Option α) : Option α :=
  G (lf ls 0).bool ((lf ls 1).lst (.int .u32)) (lf ls 2).int
    (fun y0 y1 y2 => k (.tup [(.agg [(.one (.bool y0)), (.seq (.int .u32) 6 y1)]), (.sv (.int .i64 y2))]) [] [])
def g59hd (G_g87 : {α : Type} → Int → (List Int) → ((List Int) → Bool → Option α) → Option α) (G_g88 : {α : Type} → Bool → (List Int) → (Bool → Option α) → Option α)  : Hd where
  call := fun f args Bs k => cond (Nat.beq f 87) (rowK g87tp g87bp (g87K G_g87) args Bs k) (cond (Nat.beq f 88) (rowK g88tp g88bp (g88K G_g88) args Bs k) (none))
  loop := fun id st k => none
  ro := fun f => cond (Nat.beq f 87) [0] ([])
def g59h (m : Nat) : Hd := g59hd (g87 m) (g88 m)
theorem g59Main (G_g87 : {α : Type} → Int → (List Int) → ((List Int) → Bool → Option α) → Option α) (G_g88 : {α : Type} → Bool → (List Int) → (Bool → Option α) → Option α)  {α : Type} (ls : List Lf) (k : TV → List (List Seg) → List (List Seg) → Option α) :
    g59K (g59b G_g87 G_g88) ls k = evFun tab (g59hd G_g87 G_g88) Go.Proofs.Try.f59 (fillT g59tp ls).1 (fillB g59bp (fillT g59tp ls).2).1 k := by kernel_rfl
theorem g59Calls (m : Nat) : (g59h m).CallsOk Go.Proofs.Try.prog := (cok_cons (g87Ok m) (cok_cons (g88Ok m) cok_nil))
theorem g59Fn (m : Nat) : FnOk Go.Proofs.Try.prog 59 g59tp g59bp (fun {α} => g59K (g59 (α := α) m)) :=
  fn_ok (tab := tab) (h := g59h m) (fn := Go.Proofs.Try.f59) (F := fun {α} => g59K (g59 (α := α) m)) tabOk (g59Calls m) mixed (by kernel_rfl) (by kernel_rfl) (fun c hc => by
    rw [bodyOf_some hc]
    exact loopsOk_of _ (fun p hp => by rw [show loopsOf (bodyOf Go.Proofs.Try.f59) = [] by kernel_rfl] at hp; cases hp))
    (fun α ls k => g59Main (g87 m) (g88 m) ls k)
theorem g59Ok (m : Nat) : RowOk Go.Proofs.Try.prog 59 (fun {α} => rowK g59tp g59bp (g59K (g59 (α := α) m))) := row_of (g59Fn m)

/-! ### g61: spec.l01Neg -/
def g61b {α : Type} (G_g88 : {α : Type} → Bool → (List Int) → (Bool → Option α) → Option α)  (q1092 : Bool) (u1093 : List Int) (k1096 : Bool → Option α) : Option α :=
  G_g88 (!q1092) u1093
    (fun b1095 =>
      k1096 b1095)
def g61 {α : Type} (m : Nat) : Bool → (List Int) → (Bool → Option α) → Option α :=
  g61b (g88 m)
def g61tp : List TP := [(.vl (.agg [(.one .bool), (.seq (.int .u32) 6)]))]
def g61bp : List BP := []
def g61K {α : Type} (G : Bool → (List Int) → (Bool → Option α) → Option α) (ls : List Lf) (k : TV → List (List Seg) → List (List Seg) → Option α) : Option α :=
  G (lf ls 0).bool ((lf ls 1).lst (.int .u32))
    (fun y0 => k (.vl (.agg [(.one (.bool y0)), (.seq (.int .u32) 6 ((lf ls 1).lst (.int .u32)))])) [] [])
def g61hd (G_g88 : {α : Type} → Bool → (List Int) → (Bool → Option α) → Option α)  : Hd where
  call := fun f args Bs k => cond (Nat.beq f 88) (rowK g88tp g88bp (g88K G_g88) args Bs k) (none)
  loop := fun id st k => none
  ro := fun f => []
def g61h (m : Nat) : Hd := g61hd (g88 m)
theorem g61Main (G_g88 : {α : Type} → Bool → (List Int) → (Bool → Option α) → Option α)  {α : Type} (ls : List Lf) (k : TV → List (List Seg) → List (List Seg) → Option α) :
    g61K (g61b G_g88) ls k = evFun tab (g61hd G_g88) Go.Proofs.Try.f61 (fillT g61tp ls).1 (fillB g61bp (fillT g61tp ls).2).1 k := by kernel_rfl
theorem g61Calls (m : Nat) : (g61h m).CallsOk Go.Proofs.Try.prog := (cok_cons (g88Ok m) cok_nil)
theorem g61Fn (m : Nat) : FnOk Go.Proofs.Try.prog 61 g61tp g61bp (fun {α} => g61K (g61 (α := α) m)) :=
  fn_ok (tab := tab) (h := g61h m) (fn := Go.Proofs.Try.f61) (F := fun {α} => g61K (g61 (α := α) m)) tabOk (g61Calls m) mixed (by kernel_rfl) (by kernel_rfl) (fun c hc => by
    rw [bodyOf_some hc]
    exact loopsOk_of _ (fun p hp => by rw [show loopsOf (bodyOf Go.Proofs.Try.f61) = [] by kernel_rfl] at hp; cases hp))
    (fun α ls k => g61Main (g88 m) ls k)
theorem g61Ok (m : Nat) : RowOk Go.Proofs.Try.prog 61 (fun {α} => rowK g61tp g61bp (g61K (g61 (α := α) m))) := row_of (g61Fn m)

/-! ### g63: spec.l01Compare -/
def g63b {α : Type} (G_g90 : {α : Type} → (List Int) → (List Int) → (Int → Option α) → Option α)  (q1112 : Bool) (u1113 : List Int) (q1114 : Bool) (u1115 : List Int) (k1127 : Int → Option α) : Option α :=
  cond q1112
   (
    cond (!q1114)
     (
      k1127 (-1 : Int))
     (
      cond (!q1112)
       (
        cond q1114
         (
          k1127 (1 : Int))
         (
          cond q1112
           (
            G_g90 u1115 u1113
              (fun x1118 =>
                k1127 x1118))
           (
            G_g90 u1113 u1115
              (fun x1119 =>
                k1127 x1119))))
       (
        cond q1112
         (
          G_g90 u1115 u1113
            (fun x1120 =>
              k1127 x1120))
         (
          G_g90 u1113 u1115
            (fun x1121 =>
              k1127 x1121)))))
   (
    cond (!q1112)
     (
      cond q1114
       (
        k1127 (1 : Int))
       (
        cond q1112
         (
          G_g90 u1115 u1113
            (fun x1123 =>
              k1127 x1123))
         (
          G_g90 u1113 u1115
            (fun x1124 =>
              k1127 x1124))))
     (
      cond q1112
       (
        G_g90 u1115 u1113
          (fun x1125 =>
            k1127 x1125))
       (
        G_g90 u1113 u1115
          (fun x1126 =>
            k1127 x1126))))
def g63 {α : Type} (m : Nat) : Bool → (List Int) → Bool → (List Int) → (Int → Option α) → Option α :=
  g63b (g90 m)
def g63tp : List TP := [(.vl (.sv (.ptr 0 0))), (.vl (.sv (.ptr 1 0)))]
def g63bp : List BP := [(false, [(.one .bool), (.seq (.int .u32) 6)]), (false, [(.one .bool), (.seq (.int .u32) 6)])]
def g63K {α : Type} (G : Bool → (List Int) → Bool → (List Int) → (Int → Option α) → Option α) (ls : List Lf) (k : TV → List (List Seg) → List (List Seg) → Option α) : Option α :=
  G (lf ls 0).bool ((lf ls 1).lst (.int .u32)) (lf ls 2).bool ((lf ls 3).lst (.int .u32))
    (fun y0 => k (.vl (.sv (.int .i64 y0))) [[(.one (.bool (lf ls 0).bool)), (.seq (.int .u32) 6 ((lf ls 1).lst (.int .u32)))], [(.one (.bool (lf ls 2).bool)), (.seq (.int .u32) 6 ((lf ls 3).lst (.int .u32)))]] [])
def g63hd (G_g90 : {α : Type} → (List Int) → (List Int) → (Int → Option α) → Option α)  : Hd where
  call := fun f args Bs k => cond (Nat.beq f 90) (rowK g90tp g90bp (g90K G_g90) args Bs k) (none)
  loop := fun id st k => none
  ro := fun f => cond (Nat.beq f 90) [0, 1] ([])
def g63h (m : Nat) : Hd := g63hd (g90 m)
theorem g63Main (G_g90 : {α : Type} → (List Int) → (List Int) → (Int → Option α) → Option α)  {α : Type} (ls : List Lf) (k : TV → List (List Seg) → List (List Seg) → Option α) :
    g63K (g63b G_g90) ls k = evFun tab (g63hd G_g90) Go.Proofs.Try.f63 (fillT g63tp ls).1 (fillB g63bp (fillT g63tp ls).2).1 k := by kernel_rfl
theorem g63Calls (m : Nat) : (g63h m).CallsOk Go.Proofs.Try.prog := (cok_cons (g90Ok m) cok_nil)
theorem g63Fn (m : Nat) : FnOk Go.Proofs.Try.prog 63 g63tp g63bp (fun {α} => g63K (g63 (α := α) m)) :=
  fn_ok (tab := tab) (h := g63h m) (fn := Go.Proofs.Try.f63) (F := fun {α} => g63K (g63 (α := α) m)) tabOk (g63Calls m) mixed (by kernel_rfl) (by kernel_rfl) (fun c hc => by
    rw [bodyOf_some hc]
    exact loopsOk_of _ (fun p hp => by rw [show loopsOf (bodyOf Go.Proofs.Try.f63) = [] by kernel_rfl] at hp; cases hp))
    (fun α ls k => g63Main (g90 m) ls k)
theorem g63Ok (m : Nat) : RowOk Go.Proofs.Try.prog 63 (fun {α} => rowK g63tp g63bp (g63K (g63 (α := α) m))) := row_of (g63Fn m)

/-! ### g24: spec.IsWithin -/
def g24b {α : Type} (G_g46 : {α : Type} → Bool → (List Int) → (Bool → Option α) → Option α) (G_g58 : {α : Type} → Int → (Bool → Option α) → Option α) (G_g59 : {α : Type} → Bool → (List Int) → Int → (Bool → (List Int) → Int → Option α) → Option α) (G_g61 : {α : Type} → Bool → (List Int) → (Bool → Option α) → Option α) (G_g60 : {α : Type} → Bool → (List Int) → Bool → (List Int) → (Bool → (List Int) → Int → Option α) → Option α) (G_g62 : {α : Type} → Int → (Bool → (List Int) → Option α) → Option α) (G_g63 : {α : Type} → Bool → (List Int) → Bool → (List Int) → (Int → Option α) → Option α)  (q998 : Bool) (u999 : List Int) (q1000 : Bool) (u1001 : List Int) (p1002 : Int) (p1003 : Int) (k1130 : Bool → Int → Option α) : Option α :=
  G_g46 q998 u999
    (fun b1004 =>
      cond (!b1004)
       (
        k1130 false (1 : Int))
       (
        G_g46 q1000 u1001
          (fun b1006 =>
            cond (!b1006)
             (
              k1130 false (1 : Int))
             (
              G_g58 p1002
                (fun b1011 =>
                  cond (!b1011)
                   (
                    k1130 false (2 : Int))
                   (
                    G_g58 p1003
                      (fun b1013 =>
                        cond (!b1013)
                         (
                          k1130 false (2 : Int))
                         (
                          G_g59 q998 u999 p1003
                            (fun b1088 l1089 x1090 =>
                              cond (x1090 != (0 : Int))
                               (
                                k1130 false x1090)
                               (
                                G_g61 q1000 u1001
                                  (fun b1097 =>
                                    G_g60 b1088 l1089 b1097 u1001
                                      (fun b1098 l1099 x1100 =>
                                        cond (x1100 != (0 : Int))
                                         (
                                          k1130 false x1100)
                                         (
                                          G_g62 (1 : Int)
                                            (fun b1102 l1103 =>
                                              G_g59 b1102 l1103 p1003
                                                (fun b1104 l1105 x1106 =>
                                                  G_g62 (1 : Int)
                                                    (fun b1107 l1108 =>
                                                      G_g60 b1104 l1105 b1107 l1108
                                                        (fun b1109 l1110 x1111 =>
                                                          G_g63 false l1099 b1109 l1110
                                                            (fun x1128 =>
                                                              k1130 (decide (x1128 ≤ (0 : Int))) (0 : Int)))))))))))))))))))
def g24 {α : Type} (m : Nat) : Bool → (List Int) → Bool → (List Int) → Int → Int → (Bool → Int → Option α) → Option α :=
  g24b (g46 m) (g58 m) (g59 m) (g61 m) (g60 m) (g62 m) (g63 m)
def g24tp : List TP := [(.vl (.agg [(.one .bool), (.seq (.int .u32) 6)])), (.vl (.agg [(.one .bool), (.seq (.int .u32) 6)])), (.vl (.sv (.int .i64))), (.vl (.sv (.int .i64)))]
def g24bp : List BP := []
def g24K {α : Type} (G : Bool → (List Int) → Bool → (List Int) → Int → Int → (Bool → Int → Option α) → Option α) (ls : List Lf) (k : TV → List (List Seg) → List (List Seg) → Option α) : Option α :=
  G (lf ls 0).bool ((lf ls 1).lst (.int .u32)) (lf ls 2).bool ((lf ls 3).lst (.int .u32)) (lf ls 4).int (lf ls 5).int
    (fun y0 y1 => k (.tup [(.sv (.bool y0)), (.sv (.int .i64 y1))]) [] [])
def g24hd (G_g46 : {α : Type} → Bool → (List Int) → (Bool → Option α) → Option α) (G_g58 : {α : Type} → Int → (Bool → Option α) → Option α) (G_g59 : {α : Type} → Bool → (List Int) → Int → (Bool → (List Int) → Int → Option α) → Option α) (G_g61 : {α : Type} → Bool → (List Int) → (Bool → Option α) → Option α) (G_g60 : {α : Type} → Bool → (List Int) → Bool → (List Int) → (Bool → (List Int) → Int → Option α) → Option α) (G_g62 : {α : Type} → Int → (Bool → (List Int) → Option α) → Option α) (G_g63 : {α : Type} → Bool → (List Int) → Bool → (List Int) → (Int → Option α) → Option α)  : Hd where
  call := fun f args Bs k => cond (Nat.beq f 46) (rowK g46tp g46bp (g46K G_g46) args Bs k) (cond (Nat.beq f 58) (rowK g58tp g58bp (g58K G_g58) args Bs k) (cond (Nat.beq f 59) (rowK g59tp g59bp (g59K G_g59) args Bs k) (cond (Nat.beq f 61) (rowK g61tp g61bp (g61K G_g61) args Bs k) (cond (Nat.beq f 60) (rowK g60tp g60bp (g60K G_g60) args Bs k) (cond (Nat.beq f 62) (rowK g62tp g62bp (g62K G_g62) args Bs k) (cond (Nat.beq f 63) (rowK g63tp g63bp (g63K G_g63) args Bs k) (none)))))))
  loop := fun id st k => none
  ro := fun f => cond (Nat.beq f 46) [0] (cond (Nat.beq f 63) [0, 1] ([]))
def g24h (m : Nat) : Hd := g24hd (g46 m) (g58 m) (g59 m) (g61 m) (g60 m) (g62 m) (g63 m)
theorem g24Main (G_g46 : {α : Type} → Bool → (List Int) → (Bool → Option α) → Option α) (G_g58 : {α : Type} → Int → (Bool → Option α) → Option α) (G_g59 : {α : Type} → Bool → (List Int) → Int → (Bool → (List Int) → Int → Option α) → Option α) (G_g61 : {α : Type} → Bool → (List Int) → (Bool → Option α) → Option α) (G_g60 : {α : Type} → Bool → (List Int) → Bool → (List Int) → (Bool → (List Int) → Int → Option α) → Option α) (G_g62 : {α : Type} → Int → (Bool → (List Int) → Option α) → Option α) (G_g63 : {α : Type} → Bool → (List Int) → Bool → (List Int) → (Int → Option α) → Option α)  {α : Type} (ls : List Lf) (k : TV → List (List Seg) → List (List Seg) → Option α) :
    g24K (g24b G_g46 G_g58 G_g59 G_g61 G_g60 G_g62 G_g63) ls k = evFun tab (g24hd G_g46 G_g58 G_g59 G_g61 G_g60 G_g62 G_g63) Go.Proofs.Try.f24 (fillT g24tp ls).1 (fillB g24bp (fillT g24tp ls).2).1 k := by kernel_rfl
theorem g24Calls (m : Nat) : (g24h m).CallsOk Go.Proofs.Try.prog := (cok_cons (g46Ok m) (cok_cons (g58Ok m) (cok_cons (g59Ok m) (cok_cons (g61Ok m) (cok_cons (g60Ok m) (cok_cons (g62Ok m) (cok_cons (g63Ok m) cok_nil)))))))
theorem g24Fn (m : Nat) : FnOk Go.Proofs.Try.prog 24 g24tp g24bp (fun {α} => g24K (g24 (α := α) m)) :=
  fn_ok (tab := tab) (h := g24h m) (fn := Go.Proofs.Try.f24) (F := fun {α} => g24K (g24 (α := α) m)) tabOk (g24Calls m) mixed (by kernel_rfl) (by kernel_rfl) (fun c hc => by
    rw [bodyOf_some hc]
    exact loopsOk_of _ (fun p hp => by rw [show loopsOf (bodyOf Go.Proofs.Try.f24) = [] by kernel_rfl] at hp; cases hp))
    (fun α ls k => g24Main (g46 m) (g58 m) (g59 m) (g61 m) (g60 m) (g62 m) (g63 m) ls k)
theorem g24Ok (m : Nat) : RowOk Go.Proofs.Try.prog 24 (fun {α} => rowK g24tp g24bp (g24K (g24 (α := α) m))) := row_of (g24Fn m)

/-! ### g103: math/bits.Len32 -/
def g103b {α : Type}   (p1162 : Int) (k1185 : Int → Option α) : Option α :=
  cond (decide (p1162 ≥ (65536 : Int)))
   (
    let x1164 : Int := Int.fdiv p1162 (2 ^ 16)
    cond (decide (x1164 ≥ (256 : Int)))
     (
      let x1167 : Int := IntKind.wrap .u8 (Int.fdiv x1164 (2 ^ 8))
      if 0 ≤ x1167 ∧ x1167 < strC0.size then
        k1185 (IntKind.wrap .i64 ((24 : Int) + (IntKind.wrap .i64 (byteAt strC0 x1167.toNat))))
      else
        none)
     (
      let x1171 : Int := IntKind.wrap .u8 x1164
      if 0 ≤ x1171 ∧ x1171 < strC0.size then
        k1185 (IntKind.wrap .i64 ((16 : Int) + (IntKind.wrap .i64 (byteAt strC0 x1171.toNat))))
      else
        none))
   (
    cond (decide (p1162 ≥ (256 : Int)))
     (
      let x1177 : Int := IntKind.wrap .u8 (Int.fdiv p1162 (2 ^ 8))
      if 0 ≤ x1177 ∧ x1177 < strC0.size then
        k1185 (IntKind.wrap .i64 ((8 : Int) + (IntKind.wrap .i64 (byteAt strC0 x1177.toNat))))
      else
        none)
     (
      let x1181 : Int := IntKind.wrap .u8 p1162
      if 0 ≤ x1181 ∧ x1181 < strC0.size then
        k1185 (IntKind.wrap .i64 ((0 : Int) + (IntKind.wrap .i64 (byteAt strC0 x1181.toNat))))
      else
        none))
def g103 {α : Type} (m : Nat) : Int → (Int → Option α) → Option α :=
  g103b
def g103tp : List TP := [(.vl (.sv (.int .u32)))]
def g103bp : List BP := []
def g103K {α : Type} (G : Int → (Int → Option α) → Option α) (ls : List Lf) (k : TV → List (List Seg) → List (List Seg) → Option α) : Option α :=
  G (lf ls 0).int
    (fun y0 => k (.vl (.sv (.int .i64 y0))) [] [])
def g103hd   : Hd where
  call := fun f args Bs k => none
  loop := fun id st k => none
  ro := fun f => []
def g103h (m : Nat) : Hd := g103hd
theorem g103Main   {α : Type} (ls : List Lf) (k : TV → List (List Seg) → List (List Seg) → Option α) :
    g103K (g103b) ls k = evFun tab (g103hd) Go.Proofs.Try.f103 (fillT g103tp ls).1 (fillB g103bp (fillT g103tp ls).2).1 k := by kernel_rfl
theorem g103Calls (m : Nat) : (g103h m).CallsOk Go.Proofs.Try.prog := cok_nil
theorem g103Fn (m : Nat) : FnOk Go.Proofs.Try.prog 103 g103tp g103bp (fun {α} => g103K (g103 (α := α) m)) :=
  fn_ok (tab := tab) (h := g103h m) (fn := Go.Proofs.Try.f103) (F := fun {α} => g103K (g103 (α := α) m)) tabOk (g103Calls m) mixed (by kernel_rfl) (by kernel_rfl) (fun c hc => by
    rw [bodyOf_some hc]
    exact loopsOk_of _ (fun p hp => by rw [show loopsOf (bodyOf Go.Proofs.Try.f103) = [] by kernel_rfl] at hp; cases hp))
    (fun α ls k => g103Main ls k)
theorem g103Ok (m : Nat) : RowOk Go.Proofs.Try.prog 103 (fun {α} => rowK g103tp g103bp (g103K (g103 (α := α) m))) := row_of (g103Fn m)

/-! ### g93: (impl.size).bits -/
def g93l0b {α : Type} (G_g103 : {α : Type} → Int → (Int → Option α) → Option α)  (a1156 : List Int) (k1189 : Int → Option α) (k1190 : Option α) (r1191 : Int → Option α) (v1155 : Int) : Option α :=
  cond (decide (v1155 ≥ (0 : Int)))
   (
    if 0 ≤ v1155 ∧ v1155 < (6 : Nat) then
      if v1155.toNat < 6 then
        cond ((List.getD a1156 v1155.toNat 0) != (0 : Int))
         (
          if 0 ≤ v1155 ∧ v1155 < (6 : Nat) then
            if v1155.toNat < 6 then
              G_g103 (List.getD a1156 v1155.toNat 0)
                (fun x1186 =>
                  k1189 (IntKind.wrap .i64 ((IntKind.wrap .i64 ((32 : Int) * v1155)) + x1186)))
            else
              none
          else
            none)
         (
          r1191 (IntKind.wrap .i64 (v1155 - (1 : Int))))
      else
        none
    else
      none)
   (
    k1190)
def g93l0 {α : Type} (G_g103 : {α : Type} → Int → (Int → Option α) → Option α)  (a1156 : List Int) (k1189 : Int → Option α) (k1190 : Option α) : Nat → Int → Option α
  | 0 => fun _ => none
  | m + 1 => fun v1155 => g93l0b G_g103 a1156 k1189 k1190 (g93l0 G_g103 a1156 k1189 k1190 m) v1155
def g93l0M {α : Type} (m : Nat) : (List Int) → (Int → Option α) → (Option α) → Int → Option α :=
  fun a1156 k1189 k1190 v1155 => g93l0 (g103 m) a1156 k1189 k1190 m v1155
def g93l0D : LoopD := { n := 19, sl := [1, 3], bl := [1001], tp := [(.vl (.sv (.ptr 1001 0))), (.vl (.sv (.int .i64)))], bp := [(true, [(.seq (.int .u32) 6)])], xs := [(1, [2], []), (2, [], [])] }
def g93l0K {α : Type} (L : (List Int) → (Int → Option α) → (Option α) → Int → Option α) (ls : List Lf) (k : Ex → St → Option α) : Option α :=
  L ((lf ls 1).lst (.int .u32))
    (fun y0 => k .ret (mkSt 19 [2] [(.vl (.sv (.int .i64 y0)))] [] []))
    (k .normal (mkSt 19 [] [] [] []))
    (lf ls 0).int
def g93b {α : Type} (G_g103 : {α : Type} → Int → (Int → Option α) → Option α) (L_g93l0 : {α : Type} → (List Int) → (Int → Option α) → (Option α) → Int → Option α) (u1154 : List Int) (k1193 : Int → Option α) : Option α :=
  L_g93l0 u1154
    (fun x1192 =>
      k1193 x1192)
    (
      k1193 (0 : Int))
    (5 : Int)
def g93 {α : Type} (m : Nat) : (List Int) → (Int → Option α) → Option α :=
  g93b (g103 m) (g93l0M m)
def g93tp : List TP := [(.vl (.agg [(.seq (.int .u32) 6)]))]
def g93bp : List BP := []
def g93K {α : Type} (G : (List Int) → (Int → Option α) → Option α) (ls : List Lf) (k : TV → List (List Seg) → List (List Seg) → Option α) : Option α :=
  G ((lf ls 0).lst (.int .u32))
    (fun y0 => k (.vl (.sv (.int .i64 y0))) [] [])
def g93hd (G_g103 : {α : Type} → Int → (Int → Option α) → Option α) (L_g93l0 : {α : Type} → (List Int) → (Int → Option α) → (Option α) → Int → Option α) : Hd where
  call := fun f args Bs k => cond (Nat.beq f 103) (rowK g103tp g103bp (g103K G_g103) args Bs k) (none)
  loop := fun id st k => cond (Nat.beq id 0) (loopH g93l0D (g93l0K L_g93l0) st k) (none)
  ro := fun f => []
def g93h (m : Nat) : Hd := g93hd (g103 m) (g93l0M m)
theorem g93l0Step (G_g103 : {α : Type} → Int → (Int → Option α) → Option α) (L_g93l0 : {α : Type} → (List Int) → (Int → Option α) → (Option α) → Int → Option α) {α : Type} (L : (List Int) → (Int → Option α) → (Option α) → Int → Option α) (ls : List Lf) (k : Ex → St → Option α) :
    g93l0K (fun a1156 k1189 k1190 v1155 => g93l0b G_g103 a1156 k1189 k1190 (L a1156 k1189 k1190) v1155) ls k = ev tab (g93hd G_g103 L_g93l0) (bodyAt Go.Proofs.Try.f93 0) (atHead g93l0D ls) (loopK g93l0D 0 (loopH g93l0D (g93l0K L)) k) := by kernel_rfl
theorem g93Main (G_g103 : {α : Type} → Int → (Int → Option α) → Option α) (L_g93l0 : {α : Type} → (List Int) → (Int → Option α) → (Option α) → Int → Option α) {α : Type} (ls : List Lf) (k : TV → List (List Seg) → List (List Seg) → Option α) :
    g93K (g93b G_g103 L_g93l0) ls k = evFun tab (g93hd G_g103 L_g93l0) Go.Proofs.Try.f93 (fillT g93tp ls).1 (fillB g93bp (fillT g93tp ls).2).1 k := by kernel_rfl
theorem g93Calls (m : Nat) : (g93h m).CallsOk Go.Proofs.Try.prog := (cok_cons (g103Ok m) cok_nil)
theorem g93l0Ok (m : Nat) (α : Type) (st : St) (k : Ex → St → Option α) (r : α) (h : (g93h m).loop 0 st k = some r) :
    ∃ e st', k e st' = some r ∧ CodeS Go.Proofs.Try.prog (.block 0 (.loop (bodyAt Go.Proofs.Try.f93 0))) st e st' :=
  loop_ok (tab := tab) (h := g93h m) (F := fun n ls k => g93l0K (fun a1156 k1189 k1190 v1155 => g93l0 (g103 m) a1156 k1189 k1190 n v1155) ls k) tabOk (g93Calls m) mixed (loopsOk_of _ (fun p hp => by rw [show loopsOf (bodyAt Go.Proofs.Try.f93 0) = [] by kernel_rfl] at hp; cases hp))
    (fun _ _ => rfl) (fun n ls k => g93l0Step (g103 m) (g93l0M m) (fun a1156 k1189 k1190 => g93l0 (g103 m) a1156 k1189 k1190 n) ls k) (n := m) h
theorem g93Fn (m : Nat) : FnOk Go.Proofs.Try.prog 93 g93tp g93bp (fun {α} => g93K (g93 (α := α) m)) :=
  fn_ok (tab := tab) (h := g93h m) (fn := Go.Proofs.Try.f93) (F := fun {α} => g93K (g93 (α := α) m)) tabOk (g93Calls m) mixed (by kernel_rfl) (by kernel_rfl) (fun c hc => by
    rw [bodyOf_some hc]
    exact loopsOk_of _ (fun p hp => by
    rw [show loopsOf (bodyOf Go.Proofs.Try.f93) = [(0, bodyAt Go.Proofs.Try.f93 0)] by kernel_rfl] at hp
    simp only [List.mem_cons, List.not_mem_nil, or_false] at hp
    rcases hp with rfl
    exact g93l0Ok m))
    (fun α ls k => g93Main (g103 m) (g93l0M m) ls k)
theorem g93Ok (m : Nat) : RowOk Go.Proofs.Try.prog 93 (fun {α} => rowK g93tp g93bp (g93K (g93 (α := α) m))) := row_of (g93Fn m)

/-! ### g68: (impl.size).up -/
def g68l0b {α : Type}   (v1201 : Int) (v1202 : Int) (a1204 : List Int) (a1205 : List Int) (k1225 : (List Int) → Option α) (r1226 : Int → (List Int) → Option α) (v1203 : Int) (a1206 : List Int) : Option α :=
  cond (decide (v1203 ≥ v1201))
   (
    let x1208 : Int := IntKind.wrap .i64 (v1203 - v1201)
    if 0 ≤ x1208 ∧ x1208 < (6 : Nat) then
      if x1208.toNat < 6 then
        if v1202 < 0 then
          none
        else
          if 0 ≤ v1203 ∧ v1203 < (6 : Nat) then
            if v1203.toNat < 6 then
              let l1211 : List Int := List.set a1206 (v1203.toNat) (IntKind.wrap .u32 ((List.getD a1204 x1208.toNat 0) * 2 ^ (min v1202.toNat 32)))
              cond (decide (v1202 > (0 : Int)))
               (
                cond (decide (v1203 > v1201))
                 (
                  if 0 ≤ v1203 ∧ v1203 < (6 : Nat) then
                    if v1203.toNat < 6 then
                      let x1216 : Int := IntKind.wrap .i64 ((IntKind.wrap .i64 (v1203 - v1201)) - (1 : Int))
                      if 0 ≤ x1216 ∧ x1216 < (6 : Nat) then
                        if x1216.toNat < 6 then
                          let x1218 : Int := IntKind.wrap .i64 ((32 : Int) - v1202)
                          if x1218 < 0 then
                            none
                          else
                            if 0 ≤ v1203 ∧ v1203 < (6 : Nat) then
                              if v1203.toNat < 6 then
                                r1226 (IntKind.wrap .i64 (v1203 - (1 : Int))) (List.set l1211 (v1203.toNat) (ibits .or .u32 (List.getD l1211 v1203.toNat 0) (Int.fdiv (List.getD a1204 x1216.toNat 0) (2 ^ (min x1218.toNat 32)))))
                              else
                                none
                            else
                              none
                        else
                          none
                      else
                        none
                    else
                      none
                  else
                    none)
                 (
                  r1226 (IntKind.wrap .i64 (v1203 - (1 : Int))) l1211))
               (
                r1226 (IntKind.wrap .i64 (v1203 - (1 : Int))) l1211)
            else
              none
          else
            none
      else
        none
    else
      none)
   (
    k1225 a1206)
def g68l0 {α : Type}   (v1201 : Int) (v1202 : Int) (a1204 : List Int) (a1205 : List Int) (k1225 : (List Int) → Option α) : Nat → Int → (List Int) → Option α
  | 0 => fun _ _ => none
  | m + 1 => fun v1203 a1206 => g68l0b v1201 v1202 a1204 a1205 k1225 (g68l0 v1201 v1202 a1204 a1205 k1225 m) v1203 a1206
def g68l0M {α : Type} (m : Nat) : Int → Int → (List Int) → (List Int) → ((List Int) → Option α) → Int → (List Int) → Option α :=
  fun v1201 v1202 a1204 a1205 k1225 v1203 a1206 => g68l0 v1201 v1202 a1204 a1205 k1225 m v1203 a1206
def g68l0D : LoopD := { n := 50, sl := [2, 4, 5, 6, 7, 8], bl := [1002, 1004, 1005], tp := [(.vl (.sv (.ptr 1002 0))), (.vl (.sv (.ptr 1004 0))), (.vl (.sv (.ptr 1005 0))), (.vl (.sv (.int .i64))), (.vl (.sv (.int .i64))), (.vl (.sv (.int .i64)))], bp := [(true, [(.seq (.int .u32) 6)]), (true, [(.seq (.int .u32) 6)]), (true, [(.seq (.int .u32) 6)])], xs := [(2, [4, 5], [1004, 1005])] }
def g68l0K {α : Type} (L : Int → Int → (List Int) → (List Int) → ((List Int) → Option α) → Int → (List Int) → Option α) (ls : List Lf) (k : Ex → St → Option α) : Option α :=
  L (lf ls 0).int (lf ls 1).int ((lf ls 3).lst (.int .u32)) ((lf ls 4).lst (.int .u32))
    (fun y1 => k .normal (mkSt 50 [4, 5] [(.vl (.sv (.ptr 1004 0))), (.vl (.sv (.ptr 1005 0)))] [1004, 1005] [(true, [(.seq (.int .u32) 6 ((lf ls 4).lst (.int .u32)))]), (true, [(.seq (.int .u32) 6 y1)])]))
    (lf ls 2).int ((lf ls 5).lst (.int .u32))
def g68b {α : Type}  (L_g68l0 : {α : Type} → Int → Int → (List Int) → (List Int) → ((List Int) → Option α) → Int → (List Int) → Option α) (u1197 : List Int) (p1198 : Int) (k1228 : (List Int) → Option α) : Option α :=
  L_g68l0 (IntKind.wrap .i64 (Int.tdiv p1198 (32 : Int))) (Int.tmod p1198 (32 : Int)) u1197 [0, 0, 0, 0, 0, 0]
    (fun l1227 =>
      k1228 l1227)
    (5 : Int) [0, 0, 0, 0, 0, 0]
def g68 {α : Type} (m : Nat) : (List Int) → Int → ((List Int) → Option α) → Option α :=
  g68b (g68l0M m)
def g68tp : List TP := [(.vl (.agg [(.seq (.int .u32) 6)])), (.vl (.sv (.int .i64)))]
def g68bp : List BP := []
def g68K {α : Type} (G : (List Int) → Int → ((List Int) → Option α) → Option α) (ls : List Lf) (k : TV → List (List Seg) → List (List Seg) → Option α) : Option α :=
  G ((lf ls 0).lst (.int .u32)) (lf ls 1).int
    (fun y0 => k (.vl (.agg [(.seq (.int .u32) 6 y0)])) [] [])
def g68hd  (L_g68l0 : {α : Type} → Int → Int → (List Int) → (List Int) → ((List Int) → Option α) → Int → (List Int) → Option α) : Hd where
  call := fun f args Bs k => none
  loop := fun id st k => cond (Nat.beq id 0) (loopH g68l0D (g68l0K L_g68l0) st k) (none)
  ro := fun f => []
def g68h (m : Nat) : Hd := g68hd (g68l0M m)
theorem g68l0Step  (L_g68l0 : {α : Type} → Int → Int → (List Int) → (List Int) → ((List Int) → Option α) → Int → (List Int) → Option α) {α : Type} (L : Int → Int → (List Int) → (List Int) → ((List Int) → Option α) → Int → (List Int) → Option α) (ls : List Lf) (k : Ex → St → Option α) :
    g68l0K (fun v1201 v1202 a1204 a1205 k1225 v1203 a1206 => g68l0b v1201 v1202 a1204 a1205 k1225 (L v1201 v1202 a1204 a1205 k1225) v1203 a1206) ls k = ev tab (g68hd L_g68l0) (bodyAt Go.Proofs.Try.f68 0) (atHead g68l0D ls) (loopK g68l0D 0 (loopH g68l0D (g68l0K L)) k) := by kernel_rfl
theorem g68Main  (L_g68l0 : {α : Type} → Int → Int → (List Int) → (List Int) → ((List Int) → Option α) → Int → (List Int) → Option α) {α : Type} (ls : List Lf) (k : TV → List (List Seg) → List (List Seg) → Option α) :
    g68K (g68b L_g68l0) ls k = evFun tab (g68hd L_g68l0) Go.Proofs.Try.f68 (fillT g68tp ls).1 (fillB g68bp (fillT g68tp ls).2).1 k := by kernel_rfl
theorem g68Calls (m : Nat) : (g68h m).CallsOk Go.Proofs.Try.prog := cok_nil
theorem g68l0Ok (m : Nat) (α : Type) (st : St) (k : Ex → St → Option α) (r : α) (h : (g68h m).loop 0 st k = some r) :
    ∃ e st', k e st' = some r ∧ CodeS Go.Proofs.Try.prog (.block 0 (.loop (bodyAt Go.Proofs.Try.f68 0))) st e st' :=
  loop_ok (tab := tab) (h := g68h m) (F := fun n ls k => g68l0K (fun v1201 v1202 a1204 a1205 k1225 v1203 a1206 => g68l0 v1201 v1202 a1204 a1205 k1225 n v1203 a1206) ls k) tabOk (g68Calls m) mixed (loopsOk_of _ (fun p hp => by rw [show loopsOf (bodyAt Go.Proofs.Try.f68 0) = [] by kernel_rfl] at hp; cases hp))
    (fun _ _ => rfl) (fun n ls k => g68l0Step (g68l0M m) (fun v1201 v1202 a1204 a1205 k1225 => g68l0 v1201 v1202 a1204 a1205 k1225 n) ls k) (n := m) h
theorem g68Fn (m : Nat) : FnOk Go.Proofs.Try.prog 68 g68tp g68bp (fun {α} => g68K (g68 (α := α) m)) :=
  fn_ok (tab := tab) (h := g68h m) (fn := Go.Proofs.Try.f68) (F := fun {α} => g68K (g68 (α := α) m)) tabOk (g68Calls m) mixed (by kernel_rfl) (by kernel_rfl) (fun c hc => by
    rw [bodyOf_some hc]
    exact loopsOk_of _ (fun p hp => by
    rw [show loopsOf (bodyOf Go.Proofs.Try.f68) = [(0, bodyAt Go.Proofs.Try.f68 0)] by kernel_rfl] at hp
    simp only [List.mem_cons, List.not_mem_nil, or_false] at hp
    rcases hp with rfl
    exact g68l0Ok m))
    (fun α ls k => g68Main (g68l0M m) ls k)
theorem g68Ok (m : Nat) : RowOk Go.Proofs.Try.prog 68 (fun {α} => rowK g68tp g68bp (g68K (g68 (α := α) m))) := row_of (g68Fn m)

/-! ### g66: (*impl.calc).up -/
def g66b {α : Type} (G_g93 : {α : Type} → (List Int) → (Int → Option α) → Option α) (G_g68 : {α : Type} → (List Int) → Int → ((List Int) → Option α) → Option α) (G_g84 : {α : Type} → Bool → (List Int) → (Bool → Option α) → Option α)  (q1149 : Bool) (u1150 : List Int) (p1151 : Int) (q1152 : Bool) (k1231 : Bool → (List Int) → Bool → Option α) : Option α :=
  cond (decide (p1151 > (191 : Int)))
   (
    k1231 false [0, 0, 0, 0, 0, 0] true)
   (
    G_g93 u1150
      (fun x1194 =>
        cond (decide ((IntKind.wrap .i64 (x1194 + p1151)) > (192 : Int)))
         (
          k1231 false [0, 0, 0, 0, 0, 0] true)
         (
          G_g68 u1150 p1151
            (fun l1229 =>
              G_g84 q1149 l1229
                (fun b1230 =>
                  k1231 b1230 l1229 q1152)))))
def g66 {α : Type} (m : Nat) : Bool → (List Int) → Int → Bool → (Bool → (List Int) → Bool → Option α) → Option α :=
  g66b (g93 m) (g68 m) (g84 m)
def g66tp : List TP := [(.vl (.sv (.ptr 0 0))), (.vl (.agg [(.one .bool), (.seq (.int .u32) 6)])), (.vl (.sv (.int .i64)))]
def g66bp : List BP := [(true, [(.one .bool)])]
def g66K {α : Type} (G : Bool → (List Int) → Int → Bool → (Bool → (List Int) → Bool → Option α) → Option α) (ls : List Lf) (k : TV → List (List Seg) → List (List Seg) → Option α) : Option α :=
  G (lf ls 0).bool ((lf ls 1).lst (.int .u32)) (lf ls 2).int (lf ls 3).bool
    (fun y0 y1 y2 => k (.vl (.agg [(.one (.bool y0)), (.seq (.int .u32) 6 y1)])) [[(.one (.bool y2))]] [])
def g66hd (G_g93 : {α : Type} → (List Int) → (Int → Option α) → Option α) (G_g68 : {α : Type} → (List Int) → Int → ((List Int) → Option α) → Option α) (G_g84 : {α : Type} → Bool → (List Int) → (Bool → Option α) → Option α)  : Hd where
  call := fun f args Bs k => cond (Nat.beq f 93) (rowK g93tp g93bp (g93K G_g93) args Bs k) (cond (Nat.beq f 68) (rowK g68tp g68bp (g68K G_g68) args Bs k) (cond (Nat.beq f 84) (rowK g84tp g84bp (g84K G_g84) args Bs k) (none)))
  loop := fun id st k => none
  ro := fun f => []
def g66h (m : Nat) : Hd := g66hd (g93 m) (g68 m) (g84 m)
theorem g66Main (G_g93 : {α : Type} → (List Int) → (Int → Option α) → Option α) (G_g68 : {α : Type} → (List Int) → Int → ((List Int) → Option α) → Option α) (G_g84 : {α : Type} → Bool → (List Int) → (Bool → Option α) → Option α)  {α : Type} (ls : List Lf) (k : TV → List (List Seg) → List (List Seg) → Option α) :
    g66K (g66b G_g93 G_g68 G_g84) ls k = evFun tab (g66hd G_g93 G_g68 G_g84) Go.Proofs.Try.f66 (fillT g66tp ls).1 (fillB g66bp (fillT g66tp ls).2).1 k := by kernel_rfl
theorem g66Calls (m : Nat) : (g66h m).CallsOk Go.Proofs.Try.prog := (cok_cons (g93Ok m) (cok_cons (g68Ok m) (cok_cons (g84Ok m) cok_nil)))
theorem g66Fn (m : Nat) : FnOk Go.Proofs.Try.prog 66 g66tp g66bp (fun {α} => g66K (g66 (α := α) m)) :=
  fn_ok (tab := tab) (h := g66h m) (fn := Go.Proofs.Try.f66) (F := fun {α} => g66K (g66 (α := α) m)) tabOk (g66Calls m) mixed (by kernel_rfl) (by kernel_rfl) (fun c hc => by
    rw [bodyOf_some hc]
    exact loopsOk_of _ (fun p hp => by rw [show loopsOf (bodyOf Go.Proofs.Try.f66) = [] by kernel_rfl] at hp; cases hp))
    (fun α ls k => g66Main (g93 m) (g68 m) (g84 m) ls k)
theorem g66Ok (m : Nat) : RowOk Go.Proofs.Try.prog 66 (fun {α} => rowK g66tp g66bp (g66K (g66 (α := α) m))) := row_of (g66Fn m)

/-! ### g92: impl.opposite -/
def g92b {α : Type} (G_g84 : {α : Type} → Bool → (List Int) → (Bool → Option α) → Option α)  (q1240 : Bool) (u1241 : List Int) (k1244 : Bool → Option α) : Option α :=
  G_g84 (!q1240) u1241
    (fun b1243 =>
      k1244 b1243)
def g92 {α : Type} (m : Nat) : Bool → (List Int) → (Bool → Option α) → Option α :=
  g92b (g84 m)
def g92tp : List TP := [(.vl (.agg [(.one .bool), (.seq (.int .u32) 6)]))]
def g92bp : List BP := []
def g92K {α : Type} (G : Bool → (List Int) → (Bool → Option α) → Option α) (ls : List Lf) (k : TV → List (List Seg) → List (List Seg) → Option α) : Option α :=
  G (lf ls 0).bool ((lf ls 1).lst (.int .u32))
    (fun y0 => k (.vl (.agg [(.one (.bool y0)), (.seq (.int .u32) 6 ((lf ls 1).lst (.int .u32)))])) [] [])
def g92hd (G_g84 : {α : Type} → Bool → (List Int) → (Bool → Option α) → Option α)  : Hd where
  call := fun f args Bs k => cond (Nat.beq f 84) (rowK g84tp g84bp (g84K G_g84) args Bs k) (none)
  loop := fun id st k => none
  ro := fun f => []
def g92h (m : Nat) : Hd := g92hd (g84 m)
theorem g92Main (G_g84 : {α : Type} → Bool → (List Int) → (Bool → Option α) → Option α)  {α : Type} (ls : List Lf) (k : TV → List (List Seg) → List (List Seg) → Option α) :
    g92K (g92b G_g84) ls k = evFun tab (g92hd G_g84) Go.Proofs.Try.f92 (fillT g92tp ls).1 (fillB g92bp (fillT g92tp ls).2).1 k := by kernel_rfl
theorem g92Calls (m : Nat) : (g92h m).CallsOk Go.Proofs.Try.prog := (cok_cons (g84Ok m) cok_nil)
theorem g92Fn (m : Nat) : FnOk Go.Proofs.Try.prog 92 g92tp g92bp (fun {α} => g92K (g92 (α := α) m)) :=
  fn_ok (tab := tab) (h := g92h m) (fn := Go.Proofs.Try.f92) (F := fun {α} => g92K (g92 (α := α) m)) tabOk (g92Calls m) mixed (by kernel_rfl) (by kernel_rfl) (fun c hc => by
    rw [bodyOf_some hc]
    exact loopsOk_of _ (fun p hp => by rw [show loopsOf (bodyOf Go.Proofs.Try.f92) = [] by kernel_rfl] at hp; cases hp))
    (fun α ls k => g92Main (g84 m) ls k)
theorem g92Ok (m : Nat) : RowOk Go.Proofs.Try.prog 92 (fun {α} => rowK g92tp g92bp (g92K (g92 (α := α) m))) := row_of (g92Fn m)

/-! ### g65: (*impl.calc).sub -/
def g65b {α : Type} (G_g92 : {α : Type} → Bool → (List Int) → (Bool → Option α) → Option α) (G_g53 : {α : Type} → Bool → (List Int) → Bool → (List Int) → Bool → (Bool → (List Int) → Bool → Option α) → Option α)  (q1235 : Bool) (u1236 : List Int) (q1237 : Bool) (u1238 : List Int) (q1239 : Bool) (k1249 : Bool → (List Int) → Bool → Option α) : Option α :=
  G_g92 q1237 u1238
    (fun b1245 =>
      G_g53 q1235 u1236 b1245 u1238 q1239
        (fun b1246 l1247 b1248 =>
          k1249 b1246 l1247 b1248))
def g65 {α : Type} (m : Nat) : Bool → (List Int) → Bool → (List Int) → Bool → (Bool → (List Int) → Bool → Option α) → Option α :=
  g65b (g92 m) (g53 m)
def g65tp : List TP := [(.vl (.sv (.ptr 0 0))), (.vl (.agg [(.one .bool), (.seq (.int .u32) 6)])), (.vl (.agg [(.one .bool), (.seq (.int .u32) 6)]))]
def g65bp : List BP := [(true, [(.one .bool)])]
def g65K {α : Type} (G : Bool → (List Int) → Bool → (List Int) → Bool → (Bool → (List Int) → Bool → Option α) → Option α) (ls : List Lf) (k : TV → List (List Seg) → List (List Seg) → Option α) : Option α :=
  G (lf ls 0).bool ((lf ls 1).lst (.int .u32)) (lf ls 2).bool ((lf ls 3).lst (.int .u32)) (lf ls 4).bool
    (fun y0 y1 y2 => k (.vl (.agg [(.one (.bool y0)), (.seq (.int .u32) 6 y1)])) [[(.one (.bool y2))]] [])
def g65hd (G_g92 : {α : Type} → Bool → (List Int) → (Bool → Option α) → Option α) (G_g53 : {α : Type} → Bool → (List Int) → Bool → (List Int) → Bool → (Bool → (List Int) → Bool → Option α) → Option α)  : Hd where
  call := fun f args Bs k => cond (Nat.beq f 92) (rowK g92tp g92bp (g92K G_g92) args Bs k) (cond (Nat.beq f 53) (rowK g53tp g53bp (g53K G_g53) args Bs k) (none))
  loop := fun id st k => none
  ro := fun f => []
def g65h (m : Nat) : Hd := g65hd (g92 m) (g53 m)
theorem g65Main (G_g92 : {α : Type} → Bool → (List Int) → (Bool → Option α) → Option α) (G_g53 : {α : Type} → Bool → (List Int) → Bool → (List Int) → Bool → (Bool → (List Int) → Bool → Option α) → Option α)  {α : Type} (ls : List Lf) (k : TV → List (List Seg) → List (List Seg) → Option α) :
    g65K (g65b G_g92 G_g53) ls k = evFun tab (g65hd G_g92 G_g53) Go.Proofs.Try.f65 (fillT g65tp ls).1 (fillB g65bp (fillT g65tp ls).2).1 k := by kernel_rfl
theorem g65Calls (m : Nat) : (g65h m).CallsOk Go.Proofs.Try.prog := (cok_cons (g92Ok m) (cok_cons (g53Ok m) cok_nil))
theorem g65Fn (m : Nat) : FnOk Go.Proofs.Try.prog 65 g65tp g65bp (fun {α} => g65K (g65 (α := α) m)) :=
  fn_ok (tab := tab) (h := g65h m) (fn := Go.Proofs.Try.f65) (F := fun {α} => g65K (g65 (α := α) m)) tabOk (g65Calls m) mixed (by kernel_rfl) (by kernel_rfl) (fun c hc => by
    rw [bodyOf_some hc]
    exact loopsOk_of _ (fun p hp => by rw [show loopsOf (bodyOf Go.Proofs.Try.f65) = [] by kernel_rfl] at hp; cases hp))
    (fun α ls k => g65Main (g92 m) (g53 m) ls k)
theorem g65Ok (m : Nat) : RowOk Go.Proofs.Try.prog 65 (fun {α} => rowK g65tp g65bp (g65K (g65 (α := α) m))) := row_of (g65Fn m)

/-! ### g67: impl.one -/
def g67b {α : Type}    (k1253 : (List Int) → Option α) : Option α :=
  k1253 [(1 : Int), 0, 0, 0, 0, 0]
def g67 {α : Type} (m : Nat) : ((List Int) → Option α) → Option α :=
  g67b
def g67tp : List TP := []
def g67bp : List BP := []
def g67K {α : Type} (G : ((List Int) → Option α) → Option α) (ls : List Lf) (k : TV → List (List Seg) → List (List Seg) → Option α) : Option α :=
  G 
    (fun y0 => k (.vl (.agg [(.seq (.int .u32) 6 y0)])) [] [])
def g67hd   : Hd where
  call := fun f args Bs k => none
  loop := fun id st k => none
  ro := fun f => []
def g67h (m : Nat) : Hd := g67hd
theorem g67Main   {α : Type} (ls : List Lf) (k : TV → List (List Seg) → List (List Seg) → Option α) :
    g67K (g67b) ls k = evFun tab (g67hd) Go.Proofs.Try.f67 (fillT g67tp ls).1 (fillB g67bp (fillT g67tp ls).2).1 k := by kernel_rfl
theorem g67Calls (m : Nat) : (g67h m).CallsOk Go.Proofs.Try.prog := cok_nil
theorem g67Fn (m : Nat) : FnOk Go.Proofs.Try.prog 67 g67tp g67bp (fun {α} => g67K (g67 (α := α) m)) :=
  fn_ok (tab := tab) (h := g67h m) (fn := Go.Proofs.Try.f67) (F := fun {α} => g67K (g67 (α := α) m)) tabOk (g67Calls m) mixed (by kernel_rfl) (by kernel_rfl) (fun c hc => by
    rw [bodyOf_some hc]
    exact loopsOk_of _ (fun p hp => by rw [show loopsOf (bodyOf Go.Proofs.Try.f67) = [] by kernel_rfl] at hp; cases hp))
    (fun α ls k => g67Main ls k)
theorem g67Ok (m : Nat) : RowOk Go.Proofs.Try.prog 67 (fun {α} => rowK g67tp g67bp (g67K (g67 (α := α) m))) := row_of (g67Fn m)

/-! ### g25: impl.IsWithin -/
def g25b {α : Type} (G_g49 : {α : Type} → Bool → (List Int) → (Bool → Option α) → Option α) (G_g64 : {α : Type} → Int → Int → Int → (Bool → Option α) → Option α) (G_g66 : {α : Type} → Bool → (List Int) → Int → Bool → (Bool → (List Int) → Bool → Option α) → Option α) (G_g65 : {α : Type} → Bool → (List Int) → Bool → (List Int) → Bool → (Bool → (List Int) → Bool → Option α) → Option α) (G_g67 : {α : Type} → ((List Int) → Option α) → Option α) (G_g68 : {α : Type} → (List Int) → Int → ((List Int) → Option α) → Option α) (G_g69 : {α : Type} → (List Int) → (List Int) → ((List Int) → Bool → Option α) → Option α) (G_g70 : {α : Type} → (List Int) → (List Int) → (Int → Option α) → Option α)  (q1135 : Bool) (u1136 : List Int) (q1137 : Bool) (u1138 : List Int) (p1139 : Int) (p1140 : Int) (k1261 : Bool → Int → Option α) : Option α :=
  G_g49 q1135 u1136
    (fun b1141 =>
      cond (!b1141)
       (
        k1261 false (1 : Int))
       (
        G_g49 q1137 u1138
          (fun b1143 =>
            cond (!b1143)
             (
              k1261 false (1 : Int))
             (
              G_g64 p1139 (0 : Int) (64 : Int)
                (fun b1145 =>
                  cond (!b1145)
                   (
                    k1261 false (2 : Int))
                   (
                    G_g64 p1140 (0 : Int) (64 : Int)
                      (fun b1147 =>
                        cond (!b1147)
                         (
                          k1261 false (2 : Int))
                         (
                          G_g66 q1135 u1136 p1140 false
                            (fun b1232 l1233 b1234 =>
                              G_g65 b1232 l1233 q1137 u1138 b1234
                                (fun b1250 l1251 b1252 =>
                                  cond b1252
                                   (
                                    k1261 false (3 : Int))
                                   (
                                    G_g67
                                      (fun l1254 =>
                                        G_g68 l1254 p1140
                                          (fun l1255 =>
                                            G_g67
                                              (fun l1256 =>
                                                G_g69 l1255 l1256
                                                  (fun l1257 b1258 =>
                                                    G_g70 l1251 l1257
                                                      (fun x1259 =>
                                                        k1261 (decide (x1259 ≤ (0 : Int))) (0 : Int)))))))))))))))))
def g25 {α : Type} (m : Nat) : Bool → (List Int) → Bool → (List Int) → Int → Int → (Bool → Int → Option α) → Option α :=
  g25b (g49 m) (g64 m) (g66 m) (g65 m) (g67 m) (g68 m) (g69 m) (g70 m)
def g25tp : List TP := [(.vl (.agg [(.one .bool), (.seq (.int .u32) 6)])), (.vl (.agg [(.one .bool), (.seq (.int .u32) 6)])), (.vl (.sv (.int .i64))), (.vl (.sv (.int .i64)))]
def g25bp : List BP := []
def g25K {α : Type} (G : Bool → (List Int) → Bool → (List Int) → Int → Int → (Bool → Int → Option α) → Option α) (ls : List Lf) (k : TV → List (List Seg) → List (List Seg) → Option α) : Option α :=
  G (lf ls 0).bool ((lf ls 1).lst (.int .u32)) (lf ls 2).bool ((lf ls 3).lst (.int .u32)) (lf ls 4).int (lf ls 5).int
    (fun y0 y1 => k (.tup [(.sv (.bool y0)), (.sv (.int .i64 y1))]) [] [])
def g25hd (G_g49 : {α : Type} → Bool → (List Int) → (Bool → Option α) → Option α) (G_g64 : {α : Type} → Int → Int → Int → (Bool → Option α) → Option α) (G_g66 : {α : Type} → Bool → (List Int) → Int → Bool → (Bool → (List Int) → Bool → Option α) → Option α) (G_g65 : {α : Type} → Bool → (List Int) → Bool → (List Int) → Bool → (Bool → (List Int) → Bool → Option α) → Option α) (G_g67 : {α : Type} → ((List Int) → Option α) → Option α) (G_g68 : {α : Type} → (List Int) → Int → ((List Int) → Option α) → Option α) (G_g69 : {α : Type} → (List Int) → (List Int) → ((List Int) → Bool → Option α) → Option α) (G_g70 : {α : Type} → (List Int) → (List Int) → (Int → Option α) → Option α)  : Hd where
  call := fun f args Bs k => cond (Nat.beq f 49) (rowK g49tp g49bp (g49K G_g49) args Bs k) (cond (Nat.beq f 64) (rowK g64tp g64bp (g64K G_g64) args Bs k) (cond (Nat.beq f 66) (rowK g66tp g66bp (g66K G_g66) args Bs k) (cond (Nat.beq f 65) (rowK g65tp g65bp (g65K G_g65) args Bs k) (cond (Nat.beq f 67) (rowK g67tp g67bp (g67K G_g67) args Bs k) (cond (Nat.beq f 68) (rowK g68tp g68bp (g68K G_g68) args Bs k) (cond (Nat.beq f 69) (rowK g69tp g69bp (g69K G_g69) args Bs k) (cond (Nat.beq f 70) (rowK g70tp g70bp (g70K G_g70) args Bs k) (none))))))))
  loop := fun id st k => none
  ro := fun f => []
def g25h (m : Nat) : Hd := g25hd (g49 m) (g64 m) (g66 m) (g65 m) (g67 m) (g68 m) (g69 m) (g70 m)
theorem g25Main (G_g49 : {α : Type} → Bool → (List Int) → (Bool → Option α) → Option α) (G_g64 : {α : Type} → Int → Int → Int → (Bool → Option α) → Option α) (G_g66 : {α : Type} → Bool → (List Int) → Int → Bool → (Bool → (List Int) → Bool → Option α) → Option α) (G_g65 : {α : Type} → Bool → (List Int) → Bool → (List Int) → Bool → (Bool → (List Int) → Bool → Option α) → Option α) (G_g67 : {α : Type} → ((List Int) → Option α) → Option α) (G_g68 : {α : Type} → (List Int) → Int → ((List Int) → Option α) → Option α) (G_g69 : {α : Type} → (List Int) → (List Int) → ((List Int) → Bool → Option α) → Option α) (G_g70 : {α : Type} → (List Int) → (List Int) → (Int → Option α) → Option α)  {α : Type} (ls : List Lf) (k : TV → List (List Seg) → List (List Seg) → Option α) :
    g25K (g25b G_g49 G_g64 G_g66 G_g65 G_g67 G_g68 G_g69 G_g70) ls k = evFun tab (g25hd G_g49 G_g64 G_g66 G_g65 G_g67 G_g68 G_g69 G_g70) Go.Proofs.Try.f25 (fillT g25tp ls).1 (fillB g25bp (fillT g25tp ls).2).1 k := by kernel_rfl
theorem g25Calls (m : Nat) : (g25h m).CallsOk Go.Proofs.Try.prog := (cok_cons (g49Ok m) (cok_cons (g64Ok m) (cok_cons (g66Ok m) (cok_cons (g65Ok m) (cok_cons (g67Ok m) (cok_cons (g68Ok m) (cok_cons (g69Ok m) (cok_cons (g70Ok m) cok_nil))))))))
theorem g25Fn (m : Nat) : FnOk Go.Proofs.Try.prog 25 g25tp g25bp (fun {α} => g25K (g25 (α := α) m)) :=
  fn_ok (tab := tab) (h := g25h m) (fn := Go.Proofs.Try.f25) (F := fun {α} => g25K (g25 (α := α) m)) tabOk (g25Calls m) mixed (by kernel_rfl) (by kernel_rfl) (fun c hc => by
    rw [bodyOf_some hc]
    exact loopsOk_of _ (fun p hp => by rw [show loopsOf (bodyOf Go.Proofs.Try.f25) = [] by kernel_rfl] at hp; cases hp))
    (fun α ls k => g25Main (g49 m) (g64 m) (g66 m) (g65 m) (g67 m) (g68 m) (g69 m) (g70 m) ls k)
theorem g25Ok (m : Nat) : RowOk Go.Proofs.Try.prog 25 (fun {α} => rowK g25tp g25bp (g25K (g25 (α := α) m))) := row_of (g25Fn m)

/-! ### g6: laws.FnExactIsWithin -/
def g6b {α : Type} (G_g19 : {α : Type} → Bool → (List Int) → ((List Int) → Option α) → Option α) (G_g24 : {α : Type} → Bool → (List Int) → Bool → (List Int) → Int → Int → (Bool → Int → Option α) → Option α) (G_g25 : {α : Type} → Bool → (List Int) → Bool → (List Int) → Int → Int → (Bool → Int → Option α) → Option α)  (q990 : Bool) (u991 : List Int) (q992 : Bool) (u993 : List Int) (p994 : Int) (p995 : Int) (k1266 : Bool → Option α) : Option α :=
  G_g19 q990 u991
    (fun l996 =>
      G_g19 q992 u993
        (fun l997 =>
          G_g24 q990 l996 q992 l997 p994 p995
            (fun b1131 x1132 =>
              G_g19 q990 u991
                (fun l1133 =>
                  G_g19 q992 u993
                    (fun l1134 =>
                      G_g25 q990 l1133 q992 l1134 p994 p995
                        (fun b1262 x1263 =>
                          cond (!(b1262 == b1131))
                           (
                            k1266 false)
                           (
                            cond (x1263 != x1132)
                             (
                              k1266 false)
                             (
                              k1266 true))))))))
def g6 {α : Type} (m : Nat) : Bool → (List Int) → Bool → (List Int) → Int → Int → (Bool → Option α) → Option α :=
  g6b (g19 m) (g24 m) (g25 m)
def g6tp : List TP := [(.vl (.agg [(.one .bool), (.seq (.int .u32) 6)])), (.vl (.agg [(.one .bool), (.seq (.int .u32) 6)])), (.vl (.sv (.int .i64))), (.vl (.sv (.int .i64)))]
def g6bp : List BP := []
def g6K {α : Type} (G : Bool → (List Int) → Bool → (List Int) → Int → Int → (Bool → Option α) → Option α) (ls : List Lf) (k : TV → List (List Seg) → List (List Seg) → Option α) : Option α :=
  G (lf ls 0).bool ((lf ls 1).lst (.int .u32)) (lf ls 2).bool ((lf ls 3).lst (.int .u32)) (lf ls 4).int (lf ls 5).int
    (fun y0 => k (.vl (.sv (.bool y0))) [] [])
def g6hd (G_g19 : {α : Type} → Bool → (List Int) → ((List Int) → Option α) → Option α) (G_g24 : {α : Type} → Bool → (List Int) → Bool → (List Int) → Int → Int → (Bool → Int → Option α) → Option α) (G_g25 : {α : Type} → Bool → (List Int) → Bool → (List Int) → Int → Int → (Bool → Int → Option α) → Option α)  : Hd where
  call := fun f args Bs k => cond (Nat.beq f 19) (rowK g19tp g19bp (g19K G_g19) args Bs k) (cond (Nat.beq f 24) (rowK g24tp g24bp (g24K G_g24) args Bs k) (cond (Nat.beq f 25) (rowK g25tp g25bp (g25K G_g25) args Bs k) (none)))
  loop := fun id st k => none
  ro := fun f => []
def g6h (m : Nat) : Hd := g6hd (g19 m) (g24 m) (g25 m)
theorem g6Main (G_g19 : {α : Type} → Bool → (List Int) → ((List Int) → Option α) → Option α) (G_g24 : {α : Type} → Bool → (List Int) → Bool → (List Int) → Int → Int → (Bool → Int → Option α) → Option α) (G_g25 : {α : Type} → Bool → (List Int) → Bool → (List Int) → Int → Int → (Bool → Int → Option α) → Option α)  {α : Type} (ls : List Lf) (k : TV → List (List Seg) → List (List Seg) → Option α) :
    g6K (g6b G_g19 G_g24 G_g25) ls k = evFun tab (g6hd G_g19 G_g24 G_g25) Go.Proofs.Try.f6 (fillT g6tp ls).1 (fillB g6bp (fillT g6tp ls).2).1 k := by kernel_rfl
theorem g6Calls (m : Nat) : (g6h m).CallsOk Go.Proofs.Try.prog := (cok_cons (g19Ok m) (cok_cons (g24Ok m) (cok_cons (g25Ok m) cok_nil)))
theorem g6Fn (m : Nat) : FnOk Go.Proofs.Try.prog 6 g6tp g6bp (fun {α} => g6K (g6 (α := α) m)) :=
  fn_ok (tab := tab) (h := g6h m) (fn := Go.Proofs.Try.f6) (F := fun {α} => g6K (g6 (α := α) m)) tabOk (g6Calls m) mixed (by kernel_rfl) (by kernel_rfl) (fun c hc => by
    rw [bodyOf_some hc]
    exact loopsOk_of _ (fun p hp => by rw [show loopsOf (bodyOf Go.Proofs.Try.f6) = [] by kernel_rfl] at hp; cases hp))
    (fun α ls k => g6Main (g19 m) (g24 m) (g25 m) ls k)
theorem g6Ok (m : Nat) : RowOk Go.Proofs.Try.prog 6 (fun {α} => rowK g6tp g6bp (g6K (g6 (α := α) m))) := row_of (g6Fn m)
end Go.Proofs.Ytobejeiffgehfaa.Sx
