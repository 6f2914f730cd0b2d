/- Functions. Printed by our own sx.py. -/
import Derived.Test.YtlmmgjngihlpeaaSxV0
namespace Go.Proofs.Ytlmmgjngihlpeaa.Sx
open Go
set_option linter.unusedVariables false
set_option maxRecDepth 100000
/-! ### g100: spec.l01DivMag -/
def g100l2b {α : Type}   (v781 : Int) (v782 : Int) (a784 : List Int) (a785 : List Int) (a786 : List Int) (a787 : List Int) (a788 : List Int) (k799 : (List Int) → Option α) (r800 : Int → (List Int) → Option α) (v783 : Int) (a789 : List Int) : Option α :=
  cond (decide (v783 > (0 : Int)))
   (
    if 0 ≤ v783 ∧ v783 < (6 : Nat) then
      if v783.toNat < 6 then
        let x793 : Int := IntKind.wrap .i64 (v783 - (1 : Int))
        if 0 ≤ x793 ∧ x793 < (6 : Nat) then
        if x793.toNat < 6 then
        if 0 ≤ v783 ∧ v783 < (6 : Nat) then
        if v783.toNat < 6 then
        r800 (IntKind.wrap .i64 (v783 - (1 : Int))) (List.set a789 (v783.toNat) (ibits .or .u32 (IntKind.wrap .u32 ((List.getD a789 v783.toNat 0) * 2 ^ 1)) (Int.fdiv (List.getD a789 x793.toNat 0) (2 ^ 31))))
        else
        none
        else
        none
        else
        none
        else
        none
      else
        none
    else
      none)
   (
    k799 a789)
def g100l2 {α : Type}   (v781 : Int) (v782 : Int) (a784 : List Int) (a785 : List Int) (a786 : List Int) (a787 : List Int) (a788 : List Int) (k799 : (List Int) → Option α) : Nat → Int → (List Int) → Option α
  | 0 => fun _ _ => none
  | m + 1 => fun v783 a789 => g100l2b v781 v782 a784 a785 a786 a787 a788 k799 (g100l2 v781 v782 a784 a785 a786 a787 a788 k799 m) v783 a789
def g100l2M {α : Type} (m : Nat) : Int → Int → (List Int) → (List Int) → (List Int) → (List Int) → (List Int) → ((List Int) → Option α) → Int → (List Int) → Option α :=
  fun v781 v782 a784 a785 a786 a787 a788 k799 v783 a789 => g100l2 v781 v782 a784 a785 a786 a787 a788 k799 m v783 a789
def g100l2D : LoopD := { n := 76, low := [0, 1], sl := [0, 1, 4, 5, 6, 7, 8, 9, 10], bl := [0, 1, 1000002, 1000003, 1000004, 1000005], tp := [(.vl (.sv (.ptr 0 0))), (.vl (.sv (.ptr 1 0))), (.vl (.sv (.ptr 1000002 0))), (.vl (.sv (.ptr 1000003 0))), (.vl (.sv (.ptr 1000004 0))), (.vl (.sv (.ptr 1000005 0))), (.vl (.sv (.int .i64))), (.vl (.sv (.int .u32))), (.vl (.sv (.int .i64)))], bp := [(false, [(.seq (.int .u32) 6)]), (false, [(.seq (.int .u32) 6)]), (true, [(.seq (.int .u32) 6)]), (true, [(.seq (.int .u32) 6)]), (true, [(.seq (.int .u32) 6)]), (true, [(.seq (.int .u32) 6)])], xs := [(4, [0, 1, 4, 5, 6, 7, 8, 9])] }
def g100l2K {α : Type} (L : Int → Int → (List Int) → (List Int) → (List Int) → (List Int) → (List Int) → ((List Int) → Option α) → Int → (List Int) → Option α) (ls : List Lf) (k : Ex → St → Option α) : Option α :=
  L (lf ls 0).int (lf ls 1).int ((lf ls 3).lst (.int .u32)) ((lf ls 4).lst (.int .u32)) ((lf ls 5).lst (.int .u32)) ((lf ls 6).lst (.int .u32)) ((lf ls 7).lst (.int .u32))
    (fun y7 => k .normal (mkSt 76 [0, 1, 4, 5, 6, 7, 8, 9] [(.vl (.sv (.ptr 0 0))), (.vl (.sv (.ptr 1 0))), (.vl (.sv (.ptr 1000002 0))), (.vl (.sv (.ptr 1000003 0))), (.vl (.sv (.ptr 1000004 0))), (.vl (.sv (.ptr 1000005 0))), (.vl (.sv (.int .i64 (lf ls 0).int))), (.vl (.sv (.int .u32 (lf ls 1).int)))] [0, 1, 1000002, 1000003, 1000004, 1000005] [(false, [(.seq (.int .u32) 6 ((lf ls 3).lst (.int .u32)))]), (false, [(.seq (.int .u32) 6 ((lf ls 4).lst (.int .u32)))]), (true, [(.seq (.int .u32) 6 ((lf ls 5).lst (.int .u32)))]), (true, [(.seq (.int .u32) 6 ((lf ls 6).lst (.int .u32)))]), (true, [(.seq (.int .u32) 6 ((lf ls 7).lst (.int .u32)))]), (true, [(.seq (.int .u32) 6 y7)])]))
    (lf ls 2).int ((lf ls 8).lst (.int .u32))
def g100l0b {α : Type} (G_g102 : {α : Type} → (List Int) → (List Int) → ((List Int) → Option α) → Option α) (G_g105 : {α : Type} → (List Int) → (List Int) → (Int → Option α) → Option α) (L_g100l2 : {α : Type} → Int → Int → (List Int) → (List Int) → (List Int) → (List Int) → (List Int) → ((List Int) → Option α) → Int → (List Int) → Option α) (a772 : List Int) (a773 : List Int) (a774 : List Int) (a775 : List Int) (k879 : (List Int) → (List Int) → Option α) (r880 : Int → (List Int) → (List Int) → Option α) (v771 : Int) (a776 : List Int) (a777 : List Int) : Option α :=
  cond (decide (v771 ≥ (0 : Int)))
   (
    let x780 : Int := Int.fdiv (List.getD a777 5 0) (2 ^ 31)
    L_g100l2 v771 x780 a772 a773 a774 a775 a776
      (fun l801 =>
        let x804 : Int := IntKind.wrap .i64 (Int.tdiv v771 (32 : Int))
        if 0 ≤ x804 ∧ x804 < (6 : Nat) then
        if x804.toNat < 6 then
        let x807 : Int := IntKind.wrap .u64 (Int.tmod v771 (32 : Int))
        if x807 < 0 then
        none
        else
        let l811 : List Int := List.set l801 0 (ibits .or .u32 (IntKind.wrap .u32 ((List.getD l801 0 0) * 2 ^ 1)) (ibits .and .u32 (Int.fdiv (List.getD a772 x804.toNat 0) (2 ^ (min x807.toNat 32))) (1 : Int)))
        cond (x780 == (1 : Int))
        (
        G_g102 l811 a773
        (fun l840 =>
        let x841 : Int := IntKind.wrap .i64 (Int.tdiv v771 (32 : Int))
        if 0 ≤ x841 ∧ x841 < (6 : Nat) then
        if x841.toNat < 6 then
        let x844 : Int := IntKind.wrap .u64 (Int.tmod v771 (32 : Int))
        if x844 < 0 then
        none
        else
        if 0 ≤ x841 ∧ x841 < (6 : Nat) then
        if x841.toNat < 6 then
        r880 (IntKind.wrap .i64 (v771 - (1 : Int))) (List.set a776 (x841.toNat) (ibits .or .u32 (List.getD a776 x841.toNat 0) (IntKind.wrap .u32 ((1 : Int) * 2 ^ (min x844.toNat 32))))) l840
        else
        none
        else
        none
        else
        none
        else
        none))
        (
        G_g105 l811 a773
        (fun x867 =>
        cond (decide (x867 ≥ (0 : Int)))
        (
        G_g102 l811 a773
        (fun l869 =>
        let x870 : Int := IntKind.wrap .i64 (Int.tdiv v771 (32 : Int))
        if 0 ≤ x870 ∧ x870 < (6 : Nat) then
        if x870.toNat < 6 then
        let x873 : Int := IntKind.wrap .u64 (Int.tmod v771 (32 : Int))
        if x873 < 0 then
        none
        else
        if 0 ≤ x870 ∧ x870 < (6 : Nat) then
        if x870.toNat < 6 then
        r880 (IntKind.wrap .i64 (v771 - (1 : Int))) (List.set a776 (x870.toNat) (ibits .or .u32 (List.getD a776 x870.toNat 0) (IntKind.wrap .u32 ((1 : Int) * 2 ^ (min x873.toNat 32))))) l869
        else
        none
        else
        none
        else
        none
        else
        none))
        (
        r880 (IntKind.wrap .i64 (v771 - (1 : Int))) a776 l811)))
        else
        none
        else
        none)
      (5 : Int) a777)
   (
    k879 a776 a777)
def g100l0 {α : Type} (G_g102 : {α : Type} → (List Int) → (List Int) → ((List Int) → Option α) → Option α) (G_g105 : {α : Type} → (List Int) → (List Int) → (Int → Option α) → Option α) (L_g100l2 : {α : Type} → Int → Int → (List Int) → (List Int) → (List Int) → (List Int) → (List Int) → ((List Int) → Option α) → Int → (List Int) → Option α) (a772 : List Int) (a773 : List Int) (a774 : List Int) (a775 : List Int) (k879 : (List Int) → (List Int) → Option α) : Nat → Int → (List Int) → (List Int) → Option α
  | 0 => fun _ _ _ => none
  | m + 1 => fun v771 a776 a777 => g100l0b G_g102 G_g105 L_g100l2 a772 a773 a774 a775 k879 (g100l0 G_g102 G_g105 L_g100l2 a772 a773 a774 a775 k879 m) v771 a776 a777
def g100l0M {α : Type} (m : Nat) : (List Int) → (List Int) → (List Int) → (List Int) → ((List Int) → (List Int) → Option α) → Int → (List Int) → (List Int) → Option α :=
  fun a772 a773 a774 a775 k879 v771 a776 a777 => g100l0 (g102 m) (g105 m) (g100l2M m) a772 a773 a774 a775 k879 m v771 a776 a777
def g100l0D : LoopD := { n := 76, low := [0, 1], sl := [0, 1, 4, 5, 6, 7, 8], bl := [0, 1, 1000002, 1000003, 1000004, 1000005], tp := [(.vl (.sv (.ptr 0 0))), (.vl (.sv (.ptr 1 0))), (.vl (.sv (.ptr 1000002 0))), (.vl (.sv (.ptr 1000003 0))), (.vl (.sv (.ptr 1000004 0))), (.vl (.sv (.ptr 1000005 0))), (.vl (.sv (.int .i64)))], bp := [(false, [(.seq (.int .u32) 6)]), (false, [(.seq (.int .u32) 6)]), (true, [(.seq (.int .u32) 6)]), (true, [(.seq (.int .u32) 6)]), (true, [(.seq (.int .u32) 6)]), (true, [(.seq (.int .u32) 6)])], xs := [(2, [4, 5, 6, 7])] }
def g100l0K {α : Type} (L : (List Int) → (List Int) → (List Int) → (List Int) → ((List Int) → (List Int) → Option α) → Int → (List Int) → (List Int) → Option α) (ls : List Lf) (k : Ex → St → Option α) : Option α :=
  L ((lf ls 1).lst (.int .u32)) ((lf ls 2).lst (.int .u32)) ((lf ls 3).lst (.int .u32)) ((lf ls 4).lst (.int .u32))
    (fun y4 y5 => k .normal (mkSt 76 [4, 5, 6, 7] [(.vl (.sv (.ptr 1000002 0))), (.vl (.sv (.ptr 1000003 0))), (.vl (.sv (.ptr 1000004 0))), (.vl (.sv (.ptr 1000005 0)))] [0, 1, 1000002, 1000003, 1000004, 1000005] [(false, [(.seq (.int .u32) 6 ((lf ls 1).lst (.int .u32)))]), (false, [(.seq (.int .u32) 6 ((lf ls 2).lst (.int .u32)))]), (true, [(.seq (.int .u32) 6 ((lf ls 3).lst (.int .u32)))]), (true, [(.seq (.int .u32) 6 ((lf ls 4).lst (.int .u32)))]), (true, [(.seq (.int .u32) 6 y4)]), (true, [(.seq (.int .u32) 6 y5)])]))
    (lf ls 0).int ((lf ls 5).lst (.int .u32)) ((lf ls 6).lst (.int .u32))
def g100b {α : Type} (G_g116 : {α : Type} → (List Int) → (Int → Option α) → Option α) (G_g102 : {α : Type} → (List Int) → (List Int) → ((List Int) → Option α) → Option α) (G_g105 : {α : Type} → (List Int) → (List Int) → (Int → Option α) → Option α) (L_g100l2 : {α : Type} → Int → Int → (List Int) → (List Int) → (List Int) → (List Int) → (List Int) → ((List Int) → Option α) → Int → (List Int) → Option α) (L_g100l0 : {α : Type} → (List Int) → (List Int) → (List Int) → (List Int) → ((List Int) → (List Int) → Option α) → Int → (List Int) → (List Int) → Option α) (u742 : List Int) (u743 : List Int) (k883 : (List Int) → (List Int) → Option α) : Option α :=
  G_g116 u742
    (fun x769 =>
      L_g100l0 u742 u743 [0, 0, 0, 0, 0, 0] [0, 0, 0, 0, 0, 0]
        (fun l881 l882 =>
        k883 l881 l882)
        (IntKind.wrap .i64 (x769 - (1 : Int))) [0, 0, 0, 0, 0, 0] [0, 0, 0, 0, 0, 0])
def g100 {α : Type} (m : Nat) : (List Int) → (List Int) → ((List Int) → (List Int) → Option α) → Option α :=
  g100b (g116 m) (g102 m) (g105 m) (g100l2M m) (g100l0M m)
def g100tp : List TP := [(.vl (.sv (.ptr 0 0))), (.vl (.sv (.ptr 1 0)))]
def g100bp : List BP := [(false, [(.seq (.int .u32) 6)]), (false, [(.seq (.int .u32) 6)])]
def g100K {α : Type} (G : (List Int) → (List Int) → ((List Int) → (List Int) → Option α) → Option α) (ls : List Lf) (k : TV → List (List Seg) → List (List Seg) → Option α) : Option α :=
  G ((lf ls 0).lst (.int .u32)) ((lf ls 1).lst (.int .u32))
    (fun y0 y1 => k (.tup [(.agg [(.seq (.int .u32) 6 y0)]), (.agg [(.seq (.int .u32) 6 y1)])]) [[(.seq (.int .u32) 6 ((lf ls 0).lst (.int .u32)))], [(.seq (.int .u32) 6 ((lf ls 1).lst (.int .u32)))]] [])
def g100hd (G_g116 : {α : Type} → (List Int) → (Int → Option α) → Option α) (G_g102 : {α : Type} → (List Int) → (List Int) → ((List Int) → Option α) → Option α) (G_g105 : {α : Type} → (List Int) → (List Int) → (Int → Option α) → Option α) (L_g100l2 : {α : Type} → Int → Int → (List Int) → (List Int) → (List Int) → (List Int) → (List Int) → ((List Int) → Option α) → Int → (List Int) → Option α) (L_g100l0 : {α : Type} → (List Int) → (List Int) → (List Int) → (List Int) → ((List Int) → (List Int) → Option α) → Int → (List Int) → (List Int) → Option α) : Hd where
  call := fun f args Bs k => cond (Nat.beq f 116) (rowK g116tp g116bp (g116K G_g116) args Bs k) (cond (Nat.beq f 102) (rowK g102tp g102bp (g102K G_g102) args Bs k) (cond (Nat.beq f 105) (rowK g105tp g105bp (g105K G_g105) args Bs k) (none)))
  loop := fun id st k => cond (Nat.beq id 2) (loopH g100l2D (g100l2K L_g100l2) st k) (cond (Nat.beq id 0) (loopH g100l0D (g100l0K L_g100l0) st k) (none))
  ro := fun f => cond (Nat.beq f 102) [0, 1] (cond (Nat.beq f 105) [0, 1] (cond (Nat.beq f 116) [0] ([])))
def g100h (m : Nat) : Hd := g100hd (g116 m) (g102 m) (g105 m) (g100l2M m) (g100l0M m)
theorem g100l2Step (G_g116 : {α : Type} → (List Int) → (Int → Option α) → Option α) (G_g102 : {α : Type} → (List Int) → (List Int) → ((List Int) → Option α) → Option α) (G_g105 : {α : Type} → (List Int) → (List Int) → (Int → Option α) → Option α) (L_g100l2 : {α : Type} → Int → Int → (List Int) → (List Int) → (List Int) → (List Int) → (List Int) → ((List Int) → Option α) → Int → (List Int) → Option α) (L_g100l0 : {α : Type} → (List Int) → (List Int) → (List Int) → (List Int) → ((List Int) → (List Int) → Option α) → Int → (List Int) → (List Int) → Option α) {α : Type} (L : Int → Int → (List Int) → (List Int) → (List Int) → (List Int) → (List Int) → ((List Int) → Option α) → Int → (List Int) → Option α) (ls : List Lf) (k : Ex → St → Option α) :
    g100l2K (fun v781 v782 a784 a785 a786 a787 a788 k799 v783 a789 => g100l2b v781 v782 a784 a785 a786 a787 a788 k799 (L v781 v782 a784 a785 a786 a787 a788 k799) v783 a789) ls k = ev tab (g100hd G_g116 G_g102 G_g105 L_g100l2 L_g100l0) (bodyAt Go.Proofs.Try.f100 2) (atHead g100l2D ls) (loopK g100l2D 2 (loopH g100l2D (g100l2K L)) k) := by kernel_rfl
theorem g100l0Step (G_g116 : {α : Type} → (List Int) → (Int → Option α) → Option α) (G_g102 : {α : Type} → (List Int) → (List Int) → ((List Int) → Option α) → Option α) (G_g105 : {α : Type} → (List Int) → (List Int) → (Int → Option α) → Option α) (L_g100l2 : {α : Type} → Int → Int → (List Int) → (List Int) → (List Int) → (List Int) → (List Int) → ((List Int) → Option α) → Int → (List Int) → Option α) (L_g100l0 : {α : Type} → (List Int) → (List Int) → (List Int) → (List Int) → ((List Int) → (List Int) → Option α) → Int → (List Int) → (List Int) → Option α) {α : Type} (L : (List Int) → (List Int) → (List Int) → (List Int) → ((List Int) → (List Int) → Option α) → Int → (List Int) → (List Int) → Option α) (ls : List Lf) (k : Ex → St → Option α) :
    g100l0K (fun a772 a773 a774 a775 k879 v771 a776 a777 => g100l0b G_g102 G_g105 L_g100l2 a772 a773 a774 a775 k879 (L a772 a773 a774 a775 k879) v771 a776 a777) ls k = ev tab (g100hd G_g116 G_g102 G_g105 L_g100l2 L_g100l0) (bodyAt Go.Proofs.Try.f100 0) (atHead g100l0D ls) (loopK g100l0D 0 (loopH g100l0D (g100l0K L)) k) := by kernel_rfl
theorem g100Main (G_g116 : {α : Type} → (List Int) → (Int → Option α) → Option α) (G_g102 : {α : Type} → (List Int) → (List Int) → ((List Int) → Option α) → Option α) (G_g105 : {α : Type} → (List Int) → (List Int) → (Int → Option α) → Option α) (L_g100l2 : {α : Type} → Int → Int → (List Int) → (List Int) → (List Int) → (List Int) → (List Int) → ((List Int) → Option α) → Int → (List Int) → Option α) (L_g100l0 : {α : Type} → (List Int) → (List Int) → (List Int) → (List Int) → ((List Int) → (List Int) → Option α) → Int → (List Int) → (List Int) → Option α) {α : Type} (ls : List Lf) (k : TV → List (List Seg) → List (List Seg) → Option α) :
    g100K (g100b G_g116 G_g102 G_g105 L_g100l2 L_g100l0) ls k = evFun tab (g100hd G_g116 G_g102 G_g105 L_g100l2 L_g100l0) Go.Proofs.Try.f100 (fillT g100tp ls).1 (fillB g100bp (fillT g100tp ls).2).1 k := by kernel_rfl
theorem g100Calls (m : Nat) : (g100h m).CallsOk Go.Proofs.Try.prog := (cok_cons (g116Ok m) (cok_cons (g102Ok m) (cok_cons (g105Ok m) cok_nil)))
theorem g100l2Ok (m : Nat) (α : Type) (st : St) (k : Ex → St → Option α) (r : α) (h : (g100h m).loop 2 st k = some r) :
    ∃ e st', k e st' = some r ∧ CodeS Go.Proofs.Try.prog (.block 2 (.loop (bodyAt Go.Proofs.Try.f100 2))) st e st' :=
  loop_ok (tab := tab) (h := g100h m) (F := fun n ls k => g100l2K (fun v781 v782 a784 a785 a786 a787 a788 k799 v783 a789 => g100l2 v781 v782 a784 a785 a786 a787 a788 k799 n v783 a789) ls k) tabOk (g100Calls m) mixed (loopsOk_of _ (fun p hp => by rw [show loopsOf (bodyAt Go.Proofs.Try.f100 2) = [] by kernel_rfl] at hp; cases hp))
    (fun _ _ => rfl) (fun n ls k => g100l2Step (g116 m) (g102 m) (g105 m) (g100l2M m) (g100l0M m) (fun v781 v782 a784 a785 a786 a787 a788 k799 => g100l2 v781 v782 a784 a785 a786 a787 a788 k799 n) ls k) (n := m) h
theorem g100l0Ok (m : Nat) (α : Type) (st : St) (k : Ex → St → Option α) (r : α) (h : (g100h m).loop 0 st k = some r) :
    ∃ e st', k e st' = some r ∧ CodeS Go.Proofs.Try.prog (.block 0 (.loop (bodyAt Go.Proofs.Try.f100 0))) st e st' :=
  loop_ok (tab := tab) (h := g100h m) (F := fun n ls k => g100l0K (fun a772 a773 a774 a775 k879 v771 a776 a777 => g100l0 (g102 m) (g105 m) (g100l2M m) a772 a773 a774 a775 k879 n v771 a776 a777) ls k) tabOk (g100Calls m) mixed (loopsOk_of _ (fun p hp => by
    rw [show loopsOf (bodyAt Go.Proofs.Try.f100 0) = [(2, bodyAt Go.Proofs.Try.f100 2)] by kernel_rfl] at hp
    simp only [List.mem_cons, List.not_mem_nil, or_false] at hp
    rcases hp with rfl
    exact g100l2Ok m))
    (fun _ _ => rfl) (fun n ls k => g100l0Step (g116 m) (g102 m) (g105 m) (g100l2M m) (g100l0M m) (fun a772 a773 a774 a775 k879 => g100l0 (g102 m) (g105 m) (g100l2M m) a772 a773 a774 a775 k879 n) ls k) (n := m) h
theorem g100Fn (m : Nat) : FnOk Go.Proofs.Try.prog 100 g100tp g100bp (fun {α} => g100K (g100 (α := α) m)) :=
  fn_ok (tab := tab) (h := g100h m) (fn := Go.Proofs.Try.f100) (F := fun {α} => g100K (g100 (α := α) m)) tabOk (g100Calls m) mixed (by kernel_rfl) (by kernel_rfl) (fun c hc => by
    rw [bodyOf_some hc]
    exact loopsOk_of _ (fun p hp => by
    rw [show loopsOf (bodyOf Go.Proofs.Try.f100) = [(0, bodyAt Go.Proofs.Try.f100 0)] by kernel_rfl] at hp
    simp only [List.mem_cons, List.not_mem_nil, or_false] at hp
    rcases hp with rfl
    exact g100l0Ok m))
    (fun α ls k => g100Main (g116 m) (g102 m) (g105 m) (g100l2M m) (g100l0M m) ls k)
theorem g100Ok (m : Nat) : RowOk Go.Proofs.Try.prog 100 (fun {α} => rowK g100tp g100bp (g100K (g100 (α := α) m))) := row_of (g100Fn m)

/-! ### g101: spec.l01Plus -/
def g101l0b {α : Type}   (a893 : List Int) (a894 : List Int) (a895 : List Int) (k908 : Int → (List Int) → Option α) (r909 : Int → Int → (List Int) → Option α) (v891 : Int) (v892 : Int) (a896 : List Int) : Option α :=
  cond (decide (v892 < (6 : Int)))
   (
    if 0 ≤ v892 ∧ v892 < (6 : Nat) then
      if v892.toNat < 6 then
        if 0 ≤ v892 ∧ v892 < (6 : Nat) then
        if v892.toNat < 6 then
        let x903 : Int := IntKind.wrap .u64 ((IntKind.wrap .u64 ((IntKind.wrap .u64 (List.getD a893 v892.toNat 0)) + (IntKind.wrap .u64 (List.getD a894 v892.toNat 0)))) + v891)
        if 0 ≤ v892 ∧ v892 < (6 : Nat) then
        if v892.toNat < 6 then
        r909 (Int.fdiv x903 (2 ^ 32)) (IntKind.wrap .i64 (v892 + (1 : Int))) (List.set a896 (v892.toNat) (IntKind.wrap .u32 x903))
        else
        none
        else
        none
        else
        none
        else
        none
      else
        none
    else
      none)
   (
    k908 v891 a896)
def g101l0 {α : Type}   (a893 : List Int) (a894 : List Int) (a895 : List Int) (k908 : Int → (List Int) → Option α) : Nat → Int → Int → (List Int) → Option α
  | 0 => fun _ _ _ => none
  | m + 1 => fun v891 v892 a896 => g101l0b a893 a894 a895 k908 (g101l0 a893 a894 a895 k908 m) v891 v892 a896
def g101l0M {α : Type} (m : Nat) : (List Int) → (List Int) → (List Int) → (Int → (List Int) → Option α) → Int → Int → (List Int) → Option α :=
  fun a893 a894 a895 k908 v891 v892 a896 => g101l0 a893 a894 a895 k908 m v891 v892 a896
def g101l0D : LoopD := { n := 39, low := [0, 1], sl := [0, 1, 4, 6, 7, 8], bl := [0, 1, 1000002, 1000003], tp := [(.vl (.sv (.ptr 0 0))), (.vl (.sv (.ptr 1 0))), (.vl (.sv (.ptr 1000002 0))), (.vl (.sv (.ptr 1000003 0))), (.vl (.sv (.int .u64))), (.vl (.sv (.int .i64)))], bp := [(false, [(.seq (.int .u32) 6)]), (false, [(.seq (.int .u32) 6)]), (true, [(.seq (.int .u32) 6)]), (true, [(.seq (.int .u32) 6)])], xs := [(2, [4, 6, 7])] }
def g101l0K {α : Type} (L : (List Int) → (List Int) → (List Int) → (Int → (List Int) → Option α) → Int → Int → (List Int) → Option α) (ls : List Lf) (k : Ex → St → Option α) : Option α :=
  L ((lf ls 2).lst (.int .u32)) ((lf ls 3).lst (.int .u32)) ((lf ls 4).lst (.int .u32))
    (fun y0 y4 => k .normal (mkSt 39 [4, 6, 7] [(.vl (.sv (.ptr 1000002 0))), (.vl (.sv (.ptr 1000003 0))), (.vl (.sv (.int .u64 y0)))] [0, 1, 1000002, 1000003] [(false, [(.seq (.int .u32) 6 ((lf ls 2).lst (.int .u32)))]), (false, [(.seq (.int .u32) 6 ((lf ls 3).lst (.int .u32)))]), (true, [(.seq (.int .u32) 6 ((lf ls 4).lst (.int .u32)))]), (true, [(.seq (.int .u32) 6 y4)])]))
    (lf ls 0).int (lf ls 1).int ((lf ls 5).lst (.int .u32))
def g101b {α : Type}  (L_g101l0 : {α : Type} → (List Int) → (List Int) → (List Int) → (Int → (List Int) → Option α) → Int → Int → (List Int) → Option α) (u889 : List Int) (u890 : List Int) (k913 : (List Int) → Bool → Option α) : Option α :=
  L_g101l0 u889 u890 [0, 0, 0, 0, 0, 0]
    (fun x910 l911 =>
      k913 l911 (x910 == (0 : Int)))
    (0 : Int) (0 : Int) [0, 0, 0, 0, 0, 0]
def g101 {α : Type} (m : Nat) : (List Int) → (List Int) → ((List Int) → Bool → Option α) → Option α :=
  g101b (g101l0M m)
def g101tp : List TP := [(.vl (.sv (.ptr 0 0))), (.vl (.sv (.ptr 1 0)))]
def g101bp : List BP := [(false, [(.seq (.int .u32) 6)]), (false, [(.seq (.int .u32) 6)])]
def g101K {α : Type} (G : (List Int) → (List Int) → ((List Int) → Bool → Option α) → Option α) (ls : List Lf) (k : TV → List (List Seg) → List (List Seg) → Option α) : Option α :=
  G ((lf ls 0).lst (.int .u32)) ((lf ls 1).lst (.int .u32))
    (fun y0 y1 => k (.tup [(.agg [(.seq (.int .u32) 6 y0)]), (.sv (.bool y1))]) [[(.seq (.int .u32) 6 ((lf ls 0).lst (.int .u32)))], [(.seq (.int .u32) 6 ((lf ls 1).lst (.int .u32)))]] [])
def g101hd  (L_g101l0 : {α : Type} → (List Int) → (List Int) → (List Int) → (Int → (List Int) → Option α) → Int → Int → (List Int) → Option α) : Hd where
  call := fun f args Bs k => none
  loop := fun id st k => cond (Nat.beq id 0) (loopH g101l0D (g101l0K L_g101l0) st k) (none)
  ro := fun f => []
def g101h (m : Nat) : Hd := g101hd (g101l0M m)
theorem g101l0Step  (L_g101l0 : {α : Type} → (List Int) → (List Int) → (List Int) → (Int → (List Int) → Option α) → Int → Int → (List Int) → Option α) {α : Type} (L : (List Int) → (List Int) → (List Int) → (Int → (List Int) → Option α) → Int → Int → (List Int) → Option α) (ls : List Lf) (k : Ex → St → Option α) :
    g101l0K (fun a893 a894 a895 k908 v891 v892 a896 => g101l0b a893 a894 a895 k908 (L a893 a894 a895 k908) v891 v892 a896) ls k = ev tab (g101hd L_g101l0) (bodyAt Go.Proofs.Try.f101 0) (atHead g101l0D ls) (loopK g101l0D 0 (loopH g101l0D (g101l0K L)) k) := by kernel_rfl
theorem g101Main  (L_g101l0 : {α : Type} → (List Int) → (List Int) → (List Int) → (Int → (List Int) → Option α) → Int → Int → (List Int) → Option α) {α : Type} (ls : List Lf) (k : TV → List (List Seg) → List (List Seg) → Option α) :
    g101K (g101b L_g101l0) ls k = evFun tab (g101hd L_g101l0) Go.Proofs.Try.f101 (fillT g101tp ls).1 (fillB g101bp (fillT g101tp ls).2).1 k := by kernel_rfl
theorem g101Calls (m : Nat) : (g101h m).CallsOk Go.Proofs.Try.prog := cok_nil
theorem g101l0Ok (m : Nat) (α : Type) (st : St) (k : Ex → St → Option α) (r : α) (h : (g101h m).loop 0 st k = some r) :
    ∃ e st', k e st' = some r ∧ CodeS Go.Proofs.Try.prog (.block 0 (.loop (bodyAt Go.Proofs.Try.f101 0))) st e st' :=
  loop_ok (tab := tab) (h := g101h m) (F := fun n ls k => g101l0K (fun a893 a894 a895 k908 v891 v892 a896 => g101l0 a893 a894 a895 k908 n v891 v892 a896) ls k) tabOk (g101Calls m) mixed (loopsOk_of _ (fun p hp => by rw [show loopsOf (bodyAt Go.Proofs.Try.f101 0) = [] by kernel_rfl] at hp; cases hp))
    (fun _ _ => rfl) (fun n ls k => g101l0Step (g101l0M m) (fun a893 a894 a895 k908 => g101l0 a893 a894 a895 k908 n) ls k) (n := m) h
theorem g101Fn (m : Nat) : FnOk Go.Proofs.Try.prog 101 g101tp g101bp (fun {α} => g101K (g101 (α := α) m)) :=
  fn_ok (tab := tab) (h := g101h m) (fn := Go.Proofs.Try.f101) (F := fun {α} => g101K (g101 (α := α) m)) tabOk (g101Calls m) mixed (by kernel_rfl) (by kernel_rfl) (fun c hc => by
    rw [bodyOf_some hc]
    exact loopsOk_of _ (fun p hp => by
    rw [show loopsOf (bodyOf Go.Proofs.Try.f101) = [(0, bodyAt Go.Proofs.Try.f101 0)] by kernel_rfl] at hp
    simp only [List.mem_cons, List.not_mem_nil, or_false] at hp
    rcases hp with rfl
    exact g101l0Ok m))
    (fun α ls k => g101Main (g101l0M m) ls k)
theorem g101Ok (m : Nat) : RowOk Go.Proofs.Try.prog 101 (fun {α} => rowK g101tp g101bp (g101K (g101 (α := α) m))) := row_of (g101Fn m)

/-! ### g60: spec.l01Div -/
def g60b {α : Type} (G_g100 : {α : Type} → (List Int) → (List Int) → ((List Int) → (List Int) → Option α) → Option α) (G_g95 : {α : Type} → (List Int) → (Bool → Option α) → Option α) (G_g101 : {α : Type} → (List Int) → (List Int) → ((List Int) → Bool → Option α) → Option α) (G_g102 : {α : Type} → (List Int) → (List Int) → ((List Int) → Option α) → Option α) (G_g52 : {α : Type} → Bool → (List Int) → (Bool → Option α) → Option α)  (q738 : Bool) (u739 : List Int) (q740 : Bool) (u741 : List Int) (k926 : Bool → (List Int) → Bool → (List Int) → Option α) : Option α :=
  G_g100 u739 u741
    (fun l884 l885 =>
      cond (!(q738 == q740))
       (
        G_g95 l885
        (fun b887 =>
        cond (!b887)
        (
        G_g101 l884 [(1 : Int), 0, 0, 0, 0, 0]
        (fun l914 b915 =>
        G_g102 u741 l885
        (fun l916 =>
        G_g52 (!(q738 == q740)) l914
        (fun b918 =>
        G_g52 q740 l916
        (fun b919 =>
        k926 b918 l914 b919 l916)))))
        (
        G_g52 (!(q738 == q740)) l884
        (fun b921 =>
        G_g52 q740 l885
        (fun b922 =>
        k926 b921 l884 b922 l885)))))
       (
        G_g52 (!(q738 == q740)) l884
        (fun b924 =>
        G_g52 q740 l885
        (fun b925 =>
        k926 b924 l884 b925 l885))))
def g60 {α : Type} (m : Nat) : Bool → (List Int) → Bool → (List Int) → (Bool → (List Int) → Bool → (List Int) → Option α) → Option α :=
  g60b (g100 m) (g95 m) (g101 m) (g102 m) (g52 m)
def g60tp : List TP := [(.vl (.agg [(.one .bool), (.seq (.int .u32) 6)])), (.vl (.agg [(.one .bool), (.seq (.int .u32) 6)]))]
def g60bp : List BP := []
def g60K {α : Type} (G : Bool → (List Int) → Bool → (List Int) → (Bool → (List Int) → Bool → (List Int) → Option α) → Option α) (ls : List Lf) (k : TV → List (List Seg) → List (List Seg) → Option α) : Option α :=
  G (lf ls 0).bool ((lf ls 1).lst (.int .u32)) (lf ls 2).bool ((lf ls 3).lst (.int .u32))
    (fun y0 y1 y2 y3 => k (.tup [(.agg [(.one (.bool y0)), (.seq (.int .u32) 6 y1)]), (.agg [(.one (.bool y2)), (.seq (.int .u32) 6 y3)])]) [] [])
def g60hd (G_g100 : {α : Type} → (List Int) → (List Int) → ((List Int) → (List Int) → Option α) → Option α) (G_g95 : {α : Type} → (List Int) → (Bool → Option α) → Option α) (G_g101 : {α : Type} → (List Int) → (List Int) → ((List Int) → Bool → Option α) → Option α) (G_g102 : {α : Type} → (List Int) → (List Int) → ((List Int) → Option α) → Option α) (G_g52 : {α : Type} → Bool → (List Int) → (Bool → Option α) → Option α)  : Hd where
  call := fun f args Bs k => cond (Nat.beq f 100) (rowK g100tp g100bp (g100K G_g100) args Bs k) (cond (Nat.beq f 95) (rowK g95tp g95bp (g95K G_g95) args Bs k) (cond (Nat.beq f 101) (rowK g101tp g101bp (g101K G_g101) args Bs k) (cond (Nat.beq f 102) (rowK g102tp g102bp (g102K G_g102) args Bs k) (cond (Nat.beq f 52) (rowK g52tp g52bp (g52K G_g52) args Bs k) (none)))))
  loop := fun id st k => none
  ro := fun f => cond (Nat.beq f 95) [0] (cond (Nat.beq f 100) [0, 1] (cond (Nat.beq f 101) [0, 1] (cond (Nat.beq f 102) [0, 1] ([]))))
def g60h (m : Nat) : Hd := g60hd (g100 m) (g95 m) (g101 m) (g102 m) (g52 m)
theorem g60Main (G_g100 : {α : Type} → (List Int) → (List Int) → ((List Int) → (List Int) → Option α) → Option α) (G_g95 : {α : Type} → (List Int) → (Bool → Option α) → Option α) (G_g101 : {α : Type} → (List Int) → (List Int) → ((List Int) → Bool → Option α) → Option α) (G_g102 : {α : Type} → (List Int) → (List Int) → ((List Int) → Option α) → Option α) (G_g52 : {α : Type} → Bool → (List Int) → (Bool → Option α) → Option α)  {α : Type} (ls : List Lf) (k : TV → List (List Seg) → List (List Seg) → Option α) :
    g60K (g60b G_g100 G_g95 G_g101 G_g102 G_g52) ls k = evFun tab (g60hd G_g100 G_g95 G_g101 G_g102 G_g52) Go.Proofs.Try.f60 (fillT g60tp ls).1 (fillB g60bp (fillT g60tp ls).2).1 k := by kernel_rfl
theorem g60Calls (m : Nat) : (g60h m).CallsOk Go.Proofs.Try.prog := (cok_cons (g100Ok m) (cok_cons (g95Ok m) (cok_cons (g101Ok m) (cok_cons (g102Ok m) (cok_cons (g52Ok m) cok_nil)))))
theorem g60Fn (m : Nat) : FnOk Go.Proofs.Try.prog 60 g60tp g60bp (fun {α} => g60K (g60 (α := α) m)) :=
  fn_ok (tab := tab) (h := g60h m) (fn := Go.Proofs.Try.f60) (F := fun {α} => g60K (g60 (α := α) m)) tabOk (g60Calls m) mixed (by kernel_rfl) (by kernel_rfl) (fun c hc => by
    rw [bodyOf_some hc]
    exact loopsOk_of _ (fun p hp => by rw [show loopsOf (bodyOf Go.Proofs.Try.f60) = [] by kernel_rfl] at hp; cases hp))
    (fun α ls k => g60Main (g100 m) (g95 m) (g101 m) (g102 m) (g52 m) ls k)
theorem g60Ok (m : Nat) : RowOk Go.Proofs.Try.prog 60 (fun {α} => rowK g60tp g60bp (g60K (g60 (α := α) m))) := row_of (g60Fn m)

/-! ### g15: spec.DivWides -/
def g15b {α : Type} (G_g58 : {α : Type} → Bool → (List Int) → (Bool → Option α) → Option α) (G_g59 : {α : Type} → Bool → (List Int) → (Int → Option α) → Option α) (G_g60 : {α : Type} → Bool → (List Int) → Bool → (List Int) → (Bool → (List Int) → Bool → (List Int) → Option α) → Option α)  (q719 : Bool) (u720 : List Int) (q721 : Bool) (u722 : List Int) (k931 : Bool → (List Int) → Bool → (List Int) → Int → Option α) : Option α :=
  G_g58 q719 u720
    (fun b728 =>
      cond (!b728)
       (
        k931 false [0, 0, 0, 0, 0, 0] false [0, 0, 0, 0, 0, 0] (1 : Int))
       (
        G_g58 q721 u722
        (fun b730 =>
        cond (!b730)
        (
        k931 false [0, 0, 0, 0, 0, 0] false [0, 0, 0, 0, 0, 0] (1 : Int))
        (
        G_g59 q721 u722
        (fun x736 =>
        cond (x736 == (0 : Int))
        (
        k931 false [0, 0, 0, 0, 0, 0] false [0, 0, 0, 0, 0, 0] (4 : Int))
        (
        G_g60 q719 u720 q721 u722
        (fun b927 l928 b929 l930 =>
        k931 b927 l928 b929 l930 (0 : Int))))))))
def g15 {α : Type} (m : Nat) : Bool → (List Int) → Bool → (List Int) → (Bool → (List Int) → Bool → (List Int) → Int → Option α) → Option α :=
  g15b (g58 m) (g59 m) (g60 m)
def g15tp : List TP := [(.vl (.agg [(.one .bool), (.seq (.int .u32) 6)])), (.vl (.agg [(.one .bool), (.seq (.int .u32) 6)]))]
def g15bp : List BP := []
def g15K {α : Type} (G : Bool → (List Int) → Bool → (List Int) → (Bool → (List Int) → Bool → (List Int) → Int → Option α) → Option α) (ls : List Lf) (k : TV → List (List Seg) → List (List Seg) → Option α) : Option α :=
  G (lf ls 0).bool ((lf ls 1).lst (.int .u32)) (lf ls 2).bool ((lf ls 3).lst (.int .u32))
    (fun y0 y1 y2 y3 y4 => k (.tup [(.agg [(.one (.bool y0)), (.seq (.int .u32) 6 y1)]), (.agg [(.one (.bool y2)), (.seq (.int .u32) 6 y3)]), (.sv (.int .i64 y4))]) [] [])
def g15hd (G_g58 : {α : Type} → Bool → (List Int) → (Bool → Option α) → Option α) (G_g59 : {α : Type} → Bool → (List Int) → (Int → Option α) → Option α) (G_g60 : {α : Type} → Bool → (List Int) → Bool → (List Int) → (Bool → (List Int) → Bool → (List Int) → Option α) → Option α)  : Hd where
  call := fun f args Bs k => cond (Nat.beq f 58) (rowK g58tp g58bp (g58K G_g58) args Bs k) (cond (Nat.beq f 59) (rowK g59tp g59bp (g59K G_g59) args Bs k) (cond (Nat.beq f 60) (rowK g60tp g60bp (g60K G_g60) args Bs k) (none)))
  loop := fun id st k => none
  ro := fun f => cond (Nat.beq f 58) [0] (cond (Nat.beq f 59) [0] ([]))
def g15h (m : Nat) : Hd := g15hd (g58 m) (g59 m) (g60 m)
theorem g15Main (G_g58 : {α : Type} → Bool → (List Int) → (Bool → Option α) → Option α) (G_g59 : {α : Type} → Bool → (List Int) → (Int → Option α) → Option α) (G_g60 : {α : Type} → Bool → (List Int) → Bool → (List Int) → (Bool → (List Int) → Bool → (List Int) → Option α) → Option α)  {α : Type} (ls : List Lf) (k : TV → List (List Seg) → List (List Seg) → Option α) :
    g15K (g15b G_g58 G_g59 G_g60) ls k = evFun tab (g15hd G_g58 G_g59 G_g60) Go.Proofs.Try.f15 (fillT g15tp ls).1 (fillB g15bp (fillT g15tp ls).2).1 k := by kernel_rfl
theorem g15Calls (m : Nat) : (g15h m).CallsOk Go.Proofs.Try.prog := (cok_cons (g58Ok m) (cok_cons (g59Ok m) (cok_cons (g60Ok m) cok_nil)))
theorem g15Fn (m : Nat) : FnOk Go.Proofs.Try.prog 15 g15tp g15bp (fun {α} => g15K (g15 (α := α) m)) :=
  fn_ok (tab := tab) (h := g15h m) (fn := Go.Proofs.Try.f15) (F := fun {α} => g15K (g15 (α := α) m)) tabOk (g15Calls m) mixed (by kernel_rfl) (by kernel_rfl) (fun c hc => by
    rw [bodyOf_some hc]
    exact loopsOk_of _ (fun p hp => by rw [show loopsOf (bodyOf Go.Proofs.Try.f15) = [] by kernel_rfl] at hp; cases hp))
    (fun α ls k => g15Main (g58 m) (g59 m) (g60 m) ls k)
theorem g15Ok (m : Nat) : RowOk Go.Proofs.Try.prog 15 (fun {α} => rowK g15tp g15bp (g15K (g15 (α := α) m))) := row_of (g15Fn m)

/-! ### g103: (impl.size).times -/
def g103l2b {α : Type}   (v967 : Int) (v968 : Int) (a970 : List Int) (v971 : Int) (a972 : List Int) (a974 : List Int) (a975 : List Int) (k992 : Int → (List Int) → Option α) (r993 : Int → Int → (List Int) → Option α) (v969 : Int) (v973 : Int) (a976 : List Int) : Option α :=
  cond (decide (v973 < (6 : Int)))
   (
    if 0 ≤ v973 ∧ v973 < (6 : Nat) then
      let x982 : Int := IntKind.wrap .i64 (v967 + v973)
      if 0 ≤ x982 ∧ x982 < (12 : Nat) then
        if x982.toNat < 12 then
        let x986 : Int := IntKind.wrap .u64 (v969 + (IntKind.wrap .u64 ((IntKind.wrap .u64 ((IntKind.wrap .u64 v968) * (IntKind.wrap .u64 (List.getD a972 v973.toNat 0)))) + (IntKind.wrap .u64 (List.getD a976 x982.toNat 0)))))
        let x987 : Int := IntKind.wrap .i64 (v967 + v973)
        if 0 ≤ x987 ∧ x987 < (12 : Nat) then
        if x987.toNat < 12 then
        r993 (Int.fdiv x986 (2 ^ 32)) (IntKind.wrap .i64 (v973 + (1 : Int))) (List.set a976 (x987.toNat) (IntKind.wrap .u32 x986))
        else
        none
        else
        none
        else
        none
      else
        none
    else
      none)
   (
    k992 v969 a976)
def g103l2 {α : Type}   (v967 : Int) (v968 : Int) (a970 : List Int) (v971 : Int) (a972 : List Int) (a974 : List Int) (a975 : List Int) (k992 : Int → (List Int) → Option α) : Nat → Int → Int → (List Int) → Option α
  | 0 => fun _ _ _ => none
  | m + 1 => fun v969 v973 a976 => g103l2b v967 v968 a970 v971 a972 a974 a975 k992 (g103l2 v967 v968 a970 v971 a972 a974 a975 k992 m) v969 v973 a976
def g103l2M {α : Type} (m : Nat) : Int → Int → (List Int) → Int → (List Int) → (List Int) → (List Int) → (Int → (List Int) → Option α) → Int → Int → (List Int) → Option α :=
  fun v967 v968 a970 v971 a972 a974 a975 k992 v969 v973 a976 => g103l2 v967 v968 a970 v971 a972 a974 a975 k992 m v969 v973 a976
def g103l2D : LoopD := { n := 66, low := [], sl := [3, 4, 6, 7, 8, 9, 14, 15, 19, 20], bl := [1000000, 1000001, 1000002], tp := [(.vl (.sv (.ptr 1000000 0))), (.vl (.sv (.ptr 1000001 0))), (.vl (.sv (.ptr 1000002 0))), (.vl (.sv (.int .i64))), (.vl (.sv (.int .u32))), (.vl (.sv (.int .u64))), (.vl (.agg [(.seq (.int .u32) 6)])), (.vl (.sv (.int .i64))), (.vl (.agg [(.seq (.int .u32) 6)])), (.vl (.sv (.int .i64)))], bp := [(true, [(.seq (.int .u32) 6)]), (true, [(.seq (.int .u32) 6)]), (true, [(.seq (.int .u32) 12)])], xs := [(4, [3, 4, 6, 7, 9, 14, 15])] }
def g103l2K {α : Type} (L : Int → Int → (List Int) → Int → (List Int) → (List Int) → (List Int) → (Int → (List Int) → Option α) → Int → Int → (List Int) → Option α) (ls : List Lf) (k : Ex → St → Option α) : Option α :=
  L (lf ls 0).int (lf ls 1).int ((lf ls 3).lst (.int .u32)) (lf ls 4).int ((lf ls 5).lst (.int .u32)) ((lf ls 7).lst (.int .u32)) ((lf ls 8).lst (.int .u32))
    (fun y1 y6 => k .normal (mkSt 66 [3, 4, 6, 7, 9, 14, 15] [(.vl (.sv (.ptr 1000000 0))), (.vl (.sv (.ptr 1000001 0))), (.vl (.sv (.ptr 1000002 0))), (.vl (.sv (.int .i64 (lf ls 0).int))), (.vl (.sv (.int .u64 y1))), (.vl (.agg [(.seq (.int .u32) 6 ((lf ls 3).lst (.int .u32)))])), (.vl (.sv (.int .i64 (lf ls 4).int)))] [1000000, 1000001, 1000002] [(true, [(.seq (.int .u32) 6 ((lf ls 7).lst (.int .u32)))]), (true, [(.seq (.int .u32) 6 ((lf ls 8).lst (.int .u32)))]), (true, [(.seq (.int .u32) 12 y6)])]))
    (lf ls 2).int (lf ls 6).int ((lf ls 9).lst (.int .u32))
def g103l0b {α : Type}  (L_g103l2 : {α : Type} → Int → Int → (List Int) → Int → (List Int) → (List Int) → (List Int) → (Int → (List Int) → Option α) → Int → Int → (List Int) → Option α) (a960 : List Int) (a962 : List Int) (a963 : List Int) (k1000 : (List Int) → Option α) (r1001 : Int → (List Int) → Option α) (v961 : Int) (a964 : List Int) : Option α :=
  cond (decide (v961 < (6 : Int)))
   (
    if 0 ≤ v961 ∧ v961 < (6 : Nat) then
      L_g103l2 v961 (List.getD a960 v961.toNat 0) a960 v961 a962 a962 a963
        (fun x994 l995 =>
        let x996 : Int := IntKind.wrap .i64 (v961 + (6 : Int))
        if 0 ≤ x996 ∧ x996 < (12 : Nat) then
        if x996.toNat < 12 then
        r1001 (IntKind.wrap .i64 (v961 + (1 : Int))) (List.set l995 (x996.toNat) (IntKind.wrap .u32 x994))
        else
        none
        else
        none)
        (0 : Int) (0 : Int) a964
    else
      none)
   (
    k1000 a964)
def g103l0 {α : Type}  (L_g103l2 : {α : Type} → Int → Int → (List Int) → Int → (List Int) → (List Int) → (List Int) → (Int → (List Int) → Option α) → Int → Int → (List Int) → Option α) (a960 : List Int) (a962 : List Int) (a963 : List Int) (k1000 : (List Int) → Option α) : Nat → Int → (List Int) → Option α
  | 0 => fun _ _ => none
  | m + 1 => fun v961 a964 => g103l0b L_g103l2 a960 a962 a963 k1000 (g103l0 L_g103l2 a960 a962 a963 k1000 m) v961 a964
def g103l0M {α : Type} (m : Nat) : (List Int) → (List Int) → (List Int) → ((List Int) → Option α) → Int → (List Int) → Option α :=
  fun a960 a962 a963 k1000 v961 a964 => g103l0 (g103l2M m) a960 a962 a963 k1000 m v961 a964
def g103l0D : LoopD := { n := 66, low := [], sl := [3, 4, 6, 14, 15], bl := [1000000, 1000001, 1000002], tp := [(.vl (.sv (.ptr 1000000 0))), (.vl (.sv (.ptr 1000001 0))), (.vl (.sv (.ptr 1000002 0))), (.vl (.agg [(.seq (.int .u32) 6)])), (.vl (.sv (.int .i64)))], bp := [(true, [(.seq (.int .u32) 6)]), (true, [(.seq (.int .u32) 6)]), (true, [(.seq (.int .u32) 12)])], xs := [(2, [4, 6])] }
def g103l0K {α : Type} (L : (List Int) → (List Int) → (List Int) → ((List Int) → Option α) → Int → (List Int) → Option α) (ls : List Lf) (k : Ex → St → Option α) : Option α :=
  L ((lf ls 0).lst (.int .u32)) ((lf ls 2).lst (.int .u32)) ((lf ls 3).lst (.int .u32))
    (fun y1 => k .normal (mkSt 66 [4, 6] [(.vl (.sv (.ptr 1000000 0))), (.vl (.sv (.ptr 1000001 0)))] [1000000, 1000001] [(true, [(.seq (.int .u32) 6 ((lf ls 3).lst (.int .u32)))]), (true, [(.seq (.int .u32) 12 y1)])]))
    (lf ls 1).int ((lf ls 4).lst (.int .u32))
def g103l4b {α : Type}   (m1003 : Nat) (m1004 : Nat) (m1005 : Nat) (v1006 : Int) (a1008 : List Int) (a1009 : List Int) (k1014 : (List Int) → Option α) (k1015 : Option α) (r1016 : Int → Option α) (v1007 : Int) : Option α :=
  cond (decide (v1007 < v1006))
   (
    if 0 ≤ v1007 ∧ v1007 < (m1004 : Nat) then
      if (m1003 + v1007.toNat) < 12 then
        cond ((List.getD a1009 (m1003 + v1007.toNat) 0) != (0 : Int))
        (
        k1014 [0, 0, 0, 0, 0, 0])
        (
        r1016 (IntKind.wrap .i64 (v1007 + (1 : Int))))
      else
        none
    else
      none)
   (
    k1015)
def g103l4 {α : Type}   (m1003 : Nat) (m1004 : Nat) (m1005 : Nat) (v1006 : Int) (a1008 : List Int) (a1009 : List Int) (k1014 : (List Int) → Option α) (k1015 : Option α) : Nat → Int → Option α
  | 0 => fun _ => none
  | m + 1 => fun v1007 => g103l4b m1003 m1004 m1005 v1006 a1008 a1009 k1014 k1015 (g103l4 m1003 m1004 m1005 v1006 a1008 a1009 k1014 k1015 m) v1007
def g103l4M {α : Type} (m : Nat) : Nat → Nat → Nat → Int → (List Int) → (List Int) → ((List Int) → Option α) → (Option α) → Int → Option α :=
  fun m1003 m1004 m1005 v1006 a1008 a1009 k1014 k1015 v1007 => g103l4 m1003 m1004 m1005 v1006 a1008 a1009 k1014 k1015 m v1007
def g103l4D : LoopD := { n := 66, low := [], sl := [4, 6, 53, 54, 55], bl := [1000000, 1000001], tp := [(.vl (.sv (.ptr 1000000 0))), (.vl (.sv (.ptr 1000001 0))), (.vl (.sv (.slc 1000001 0 1))), (.vl (.sv (.int .i64))), (.vl (.sv (.int .i64)))], bp := [(true, [(.seq (.int .u32) 6)]), (true, [(.seq (.int .u32) 12)])], xs := [(1, [4, 5]), (6, [4, 6])] }
def g103l4K {α : Type} (L : Nat → Nat → Nat → Int → (List Int) → (List Int) → ((List Int) → Option α) → (Option α) → Int → Option α) (ls : List Lf) (k : Ex → St → Option α) : Option α :=
  L (lf ls 0).nat (lf ls 1).nat (lf ls 2).nat (lf ls 3).int ((lf ls 5).lst (.int .u32)) ((lf ls 6).lst (.int .u32))
    (fun y1 => k .ret (mkSt 66 [4, 5] [(.vl (.sv (.ptr 1000000 0))), (.vl (.sv (.bool true)))] [1000000] [(true, [(.seq (.int .u32) 6 y1)])]))
    (k .normal (mkSt 66 [4, 6] [(.vl (.sv (.ptr 1000000 0))), (.vl (.sv (.ptr 1000001 0)))] [1000000, 1000001] [(true, [(.seq (.int .u32) 6 ((lf ls 5).lst (.int .u32)))]), (true, [(.seq (.int .u32) 12 ((lf ls 6).lst (.int .u32)))])]))
    (lf ls 4).int
def g103b {α : Type}  (L_g103l2 : {α : Type} → Int → Int → (List Int) → Int → (List Int) → (List Int) → (List Int) → (Int → (List Int) → Option α) → Int → Int → (List Int) → Option α) (L_g103l0 : {α : Type} → (List Int) → (List Int) → (List Int) → ((List Int) → Option α) → Int → (List Int) → Option α) (L_g103l4 : {α : Type} → Nat → Nat → Nat → Int → (List Int) → (List Int) → ((List Int) → Option α) → (Option α) → Int → Option α) (u958 : List Int) (u959 : List Int) (k1019 : (List Int) → Bool → Option α) : Option α :=
  L_g103l0 u958 u959 [0, 0, 0, 0, 0, 0]
    (fun l1002 =>
      L_g103l4 6 6 6 (6 : Int) [0, 0, 0, 0, 0, 0] l1002
        (fun l1017 =>
        k1019 l1017 true)
        (
        k1019 (List.take 6 (List.drop 0 l1002)) false)
        (0 : Int))
    (0 : Int) [0, 0, 0, 0, 0, 0, 0, 0, 0, 0, 0, 0]
def g103 {α : Type} (m : Nat) : (List Int) → (List Int) → ((List Int) → Bool → Option α) → Option α :=
  g103b (g103l2M m) (g103l0M m) (g103l4M m)
def g103tp : List TP := [(.vl (.agg [(.seq (.int .u32) 6)])), (.vl (.agg [(.seq (.int .u32) 6)]))]
def g103bp : List BP := []
def g103K {α : Type} (G : (List Int) → (List Int) → ((List Int) → Bool → Option α) → Option α) (ls : List Lf) (k : TV → List (List Seg) → List (List Seg) → Option α) : Option α :=
  G ((lf ls 0).lst (.int .u32)) ((lf ls 1).lst (.int .u32))
    (fun y0 y1 => k (.tup [(.agg [(.seq (.int .u32) 6 y0)]), (.sv (.bool y1))]) [] [])
def g103hd  (L_g103l2 : {α : Type} → Int → Int → (List Int) → Int → (List Int) → (List Int) → (List Int) → (Int → (List Int) → Option α) → Int → Int → (List Int) → Option α) (L_g103l0 : {α : Type} → (List Int) → (List Int) → (List Int) → ((List Int) → Option α) → Int → (List Int) → Option α) (L_g103l4 : {α : Type} → Nat → Nat → Nat → Int → (List Int) → (List Int) → ((List Int) → Option α) → (Option α) → Int → Option α) : Hd where
  call := fun f args Bs k => none
  loop := fun id st k => cond (Nat.beq id 2) (loopH g103l2D (g103l2K L_g103l2) st k) (cond (Nat.beq id 0) (loopH g103l0D (g103l0K L_g103l0) st k) (cond (Nat.beq id 4) (loopH g103l4D (g103l4K L_g103l4) st k) (none)))
  ro := fun f => []
def g103h (m : Nat) : Hd := g103hd (g103l2M m) (g103l0M m) (g103l4M m)
theorem g103l2Step  (L_g103l2 : {α : Type} → Int → Int → (List Int) → Int → (List Int) → (List Int) → (List Int) → (Int → (List Int) → Option α) → Int → Int → (List Int) → Option α) (L_g103l0 : {α : Type} → (List Int) → (List Int) → (List Int) → ((List Int) → Option α) → Int → (List Int) → Option α) (L_g103l4 : {α : Type} → Nat → Nat → Nat → Int → (List Int) → (List Int) → ((List Int) → Option α) → (Option α) → Int → Option α) {α : Type} (L : Int → Int → (List Int) → Int → (List Int) → (List Int) → (List Int) → (Int → (List Int) → Option α) → Int → Int → (List Int) → Option α) (ls : List Lf) (k : Ex → St → Option α) :
    g103l2K (fun v967 v968 a970 v971 a972 a974 a975 k992 v969 v973 a976 => g103l2b v967 v968 a970 v971 a972 a974 a975 k992 (L v967 v968 a970 v971 a972 a974 a975 k992) v969 v973 a976) ls k = ev tab (g103hd L_g103l2 L_g103l0 L_g103l4) (bodyAt Go.Proofs.Try.f103 2) (atHead g103l2D ls) (loopK g103l2D 2 (loopH g103l2D (g103l2K L)) k) := by kernel_rfl
theorem g103l0Step  (L_g103l2 : {α : Type} → Int → Int → (List Int) → Int → (List Int) → (List Int) → (List Int) → (Int → (List Int) → Option α) → Int → Int → (List Int) → Option α) (L_g103l0 : {α : Type} → (List Int) → (List Int) → (List Int) → ((List Int) → Option α) → Int → (List Int) → Option α) (L_g103l4 : {α : Type} → Nat → Nat → Nat → Int → (List Int) → (List Int) → ((List Int) → Option α) → (Option α) → Int → Option α) {α : Type} (L : (List Int) → (List Int) → (List Int) → ((List Int) → Option α) → Int → (List Int) → Option α) (ls : List Lf) (k : Ex → St → Option α) :
    g103l0K (fun a960 a962 a963 k1000 v961 a964 => g103l0b L_g103l2 a960 a962 a963 k1000 (L a960 a962 a963 k1000) v961 a964) ls k = ev tab (g103hd L_g103l2 L_g103l0 L_g103l4) (bodyAt Go.Proofs.Try.f103 0) (atHead g103l0D ls) (loopK g103l0D 0 (loopH g103l0D (g103l0K L)) k) := by kernel_rfl
theorem g103l4Step  (L_g103l2 : {α : Type} → Int → Int → (List Int) → Int → (List Int) → (List Int) → (List Int) → (Int → (List Int) → Option α) → Int → Int → (List Int) → Option α) (L_g103l0 : {α : Type} → (List Int) → (List Int) → (List Int) → ((List Int) → Option α) → Int → (List Int) → Option α) (L_g103l4 : {α : Type} → Nat → Nat → Nat → Int → (List Int) → (List Int) → ((List Int) → Option α) → (Option α) → Int → Option α) {α : Type} (L : Nat → Nat → Nat → Int → (List Int) → (List Int) → ((List Int) → Option α) → (Option α) → Int → Option α) (ls : List Lf) (k : Ex → St → Option α) :
    g103l4K (fun m1003 m1004 m1005 v1006 a1008 a1009 k1014 k1015 v1007 => g103l4b m1003 m1004 m1005 v1006 a1008 a1009 k1014 k1015 (L m1003 m1004 m1005 v1006 a1008 a1009 k1014 k1015) v1007) ls k = ev tab (g103hd L_g103l2 L_g103l0 L_g103l4) (bodyAt Go.Proofs.Try.f103 4) (atHead g103l4D ls) (loopK g103l4D 4 (loopH g103l4D (g103l4K L)) k) := by kernel_rfl
theorem g103Main  (L_g103l2 : {α : Type} → Int → Int → (List Int) → Int → (List Int) → (List Int) → (List Int) → (Int → (List Int) → Option α) → Int → Int → (List Int) → Option α) (L_g103l0 : {α : Type} → (List Int) → (List Int) → (List Int) → ((List Int) → Option α) → Int → (List Int) → Option α) (L_g103l4 : {α : Type} → Nat → Nat → Nat → Int → (List Int) → (List Int) → ((List Int) → Option α) → (Option α) → Int → Option α) {α : Type} (ls : List Lf) (k : TV → List (List Seg) → List (List Seg) → Option α) :
    g103K (g103b L_g103l2 L_g103l0 L_g103l4) ls k = evFun tab (g103hd L_g103l2 L_g103l0 L_g103l4) Go.Proofs.Try.f103 (fillT g103tp ls).1 (fillB g103bp (fillT g103tp ls).2).1 k := by kernel_rfl
theorem g103Calls (m : Nat) : (g103h m).CallsOk Go.Proofs.Try.prog := cok_nil
theorem g103l2Ok (m : Nat) (α : Type) (st : St) (k : Ex → St → Option α) (r : α) (h : (g103h m).loop 2 st k = some r) :
    ∃ e st', k e st' = some r ∧ CodeS Go.Proofs.Try.prog (.block 2 (.loop (bodyAt Go.Proofs.Try.f103 2))) st e st' :=
  loop_ok (tab := tab) (h := g103h m) (F := fun n ls k => g103l2K (fun v967 v968 a970 v971 a972 a974 a975 k992 v969 v973 a976 => g103l2 v967 v968 a970 v971 a972 a974 a975 k992 n v969 v973 a976) ls k) tabOk (g103Calls m) mixed (loopsOk_of _ (fun p hp => by rw [show loopsOf (bodyAt Go.Proofs.Try.f103 2) = [] by kernel_rfl] at hp; cases hp))
    (fun _ _ => rfl) (fun n ls k => g103l2Step (g103l2M m) (g103l0M m) (g103l4M m) (fun v967 v968 a970 v971 a972 a974 a975 k992 => g103l2 v967 v968 a970 v971 a972 a974 a975 k992 n) ls k) (n := m) h
theorem g103l0Ok (m : Nat) (α : Type) (st : St) (k : Ex → St → Option α) (r : α) (h : (g103h m).loop 0 st k = some r) :
    ∃ e st', k e st' = some r ∧ CodeS Go.Proofs.Try.prog (.block 0 (.loop (bodyAt Go.Proofs.Try.f103 0))) st e st' :=
  loop_ok (tab := tab) (h := g103h m) (F := fun n ls k => g103l0K (fun a960 a962 a963 k1000 v961 a964 => g103l0 (g103l2M m) a960 a962 a963 k1000 n v961 a964) ls k) tabOk (g103Calls m) mixed (loopsOk_of _ (fun p hp => by
    rw [show loopsOf (bodyAt Go.Proofs.Try.f103 0) = [(2, bodyAt Go.Proofs.Try.f103 2)] by kernel_rfl] at hp
    simp only [List.mem_cons, List.not_mem_nil, or_false] at hp
    rcases hp with rfl
    exact g103l2Ok m))
    (fun _ _ => rfl) (fun n ls k => g103l0Step (g103l2M m) (g103l0M m) (g103l4M m) (fun a960 a962 a963 k1000 => g103l0 (g103l2M m) a960 a962 a963 k1000 n) ls k) (n := m) h
theorem g103l4Ok (m : Nat) (α : Type) (st : St) (k : Ex → St → Option α) (r : α) (h : (g103h m).loop 4 st k = some r) :
    ∃ e st', k e st' = some r ∧ CodeS Go.Proofs.Try.prog (.block 4 (.loop (bodyAt Go.Proofs.Try.f103 4))) st e st' :=
  loop_ok (tab := tab) (h := g103h m) (F := fun n ls k => g103l4K (fun m1003 m1004 m1005 v1006 a1008 a1009 k1014 k1015 v1007 => g103l4 m1003 m1004 m1005 v1006 a1008 a1009 k1014 k1015 n v1007) ls k) tabOk (g103Calls m) mixed (loopsOk_of _ (fun p hp => by rw [show loopsOf (bodyAt Go.Proofs.Try.f103 4) = [] by kernel_rfl] at hp; cases hp))
    (fun _ _ => rfl) (fun n ls k => g103l4Step (g103l2M m) (g103l0M m) (g103l4M m) (fun m1003 m1004 m1005 v1006 a1008 a1009 k1014 k1015 => g103l4 m1003 m1004 m1005 v1006 a1008 a1009 k1014 k1015 n) ls k) (n := m) h
theorem g103Fn (m : Nat) : FnOk Go.Proofs.Try.prog 103 g103tp g103bp (fun {α} => g103K (g103 (α := α) m)) :=
  fn_ok (tab := tab) (h := g103h m) (fn := Go.Proofs.Try.f103) (F := fun {α} => g103K (g103 (α := α) m)) tabOk (g103Calls m) mixed (by kernel_rfl) (by kernel_rfl) (fun c hc => by
    rw [bodyOf_some hc]
    exact loopsOk_of _ (fun p hp => by
    rw [show loopsOf (bodyOf Go.Proofs.Try.f103) = [(0, bodyAt Go.Proofs.Try.f103 0), (4, bodyAt Go.Proofs.Try.f103 4)] by kernel_rfl] at hp
    simp only [List.mem_cons, List.not_mem_nil, or_false] at hp
    rcases hp with rfl | rfl
    · exact g103l0Ok m
    · exact g103l4Ok m))
    (fun α ls k => g103Main (g103l2M m) (g103l0M m) (g103l4M m) ls k)
theorem g103Ok (m : Nat) : RowOk Go.Proofs.Try.prog 103 (fun {α} => rowK g103tp g103bp (g103K (g103 (α := α) m))) := row_of (g103Fn m)

/-! ### g61: (*impl.calc).mul -/
def g61b {α : Type} (G_g103 : {α : Type} → (List Int) → (List Int) → ((List Int) → Bool → Option α) → Option α) (G_g64 : {α : Type} → Bool → (List Int) → (Bool → Option α) → Option α)  (q953 : Bool) (u954 : List Int) (q955 : Bool) (u956 : List Int) (q957 : Bool) (k1026 : Bool → (List Int) → Bool → Option α) : Option α :=
  G_g103 u954 u956
    (fun l1020 b1021 =>
      cond q957
       (
        G_g64 (!(q953 == q955)) l1020
        (fun b1023 =>
        k1026 b1023 l1020 true))
       (
        G_g64 (!(q953 == q955)) l1020
        (fun b1025 =>
        k1026 b1025 l1020 b1021)))
def g61 {α : Type} (m : Nat) : Bool → (List Int) → Bool → (List Int) → Bool → (Bool → (List Int) → Bool → Option α) → Option α :=
  g61b (g103 m) (g64 m)
def g61tp : List TP := [(.vl (.sv (.ptr 0 0))), (.vl (.agg [(.one .bool), (.seq (.int .u32) 6)])), (.vl (.agg [(.one .bool), (.seq (.int .u32) 6)]))]
def g61bp : List BP := [(true, [(.one .bool)])]
def g61K {α : Type} (G : Bool → (List Int) → Bool → (List Int) → Bool → (Bool → (List Int) → Bool → Option α) → Option α) (ls : List Lf) (k : TV → List (List Seg) → List (List Seg) → Option α) : Option α :=
  G (lf ls 0).bool ((lf ls 1).lst (.int .u32)) (lf ls 2).bool ((lf ls 3).lst (.int .u32)) (lf ls 4).bool
    (fun y0 y1 y2 => k (.vl (.agg [(.one (.bool y0)), (.seq (.int .u32) 6 y1)])) [[(.one (.bool y2))]] [])
def g61hd (G_g103 : {α : Type} → (List Int) → (List Int) → ((List Int) → Bool → Option α) → Option α) (G_g64 : {α : Type} → Bool → (List Int) → (Bool → Option α) → Option α)  : Hd where
  call := fun f args Bs k => cond (Nat.beq f 103) (rowK g103tp g103bp (g103K G_g103) args Bs k) (cond (Nat.beq f 64) (rowK g64tp g64bp (g64K G_g64) args Bs k) (none))
  loop := fun id st k => none
  ro := fun f => []
def g61h (m : Nat) : Hd := g61hd (g103 m) (g64 m)
theorem g61Main (G_g103 : {α : Type} → (List Int) → (List Int) → ((List Int) → Bool → Option α) → Option α) (G_g64 : {α : Type} → Bool → (List Int) → (Bool → Option α) → Option α)  {α : Type} (ls : List Lf) (k : TV → List (List Seg) → List (List Seg) → Option α) :
    g61K (g61b G_g103 G_g64) ls k = evFun tab (g61hd G_g103 G_g64) Go.Proofs.Try.f61 (fillT g61tp ls).1 (fillB g61bp (fillT g61tp ls).2).1 k := by kernel_rfl
theorem g61Calls (m : Nat) : (g61h m).CallsOk Go.Proofs.Try.prog := (cok_cons (g103Ok m) (cok_cons (g64Ok m) cok_nil))
theorem g61Fn (m : Nat) : FnOk Go.Proofs.Try.prog 61 g61tp g61bp (fun {α} => g61K (g61 (α := α) m)) :=
  fn_ok (tab := tab) (h := g61h m) (fn := Go.Proofs.Try.f61) (F := fun {α} => g61K (g61 (α := α) m)) tabOk (g61Calls m) mixed (by kernel_rfl) (by kernel_rfl) (fun c hc => by
    rw [bodyOf_some hc]
    exact loopsOk_of _ (fun p hp => by rw [show loopsOf (bodyOf Go.Proofs.Try.f61) = [] by kernel_rfl] at hp; cases hp))
    (fun α ls k => g61Main (g103 m) (g64 m) ls k)
theorem g61Ok (m : Nat) : RowOk Go.Proofs.Try.prog 61 (fun {α} => rowK g61tp g61bp (g61K (g61 (α := α) m))) := row_of (g61Fn m)

/-! ### g16: impl.MulWides -/
def g16b {α : Type} (G_g53 : {α : Type} → Bool → (List Int) → (Bool → Option α) → Option α) (G_g61 : {α : Type} → Bool → (List Int) → Bool → (List Int) → Bool → (Bool → (List Int) → Bool → Option α) → Option α) (G_g56 : {α : Type} → Bool → (List Int) → Bool → (Bool → (List Int) → Int → Option α) → Option α)  (q945 : Bool) (u946 : List Int) (q947 : Bool) (u948 : List Int) (k1033 : Bool → (List Int) → Int → Option α) : Option α :=
  G_g53 q945 u946
    (fun b949 =>
      cond (!b949)
       (
        k1033 false [0, 0, 0, 0, 0, 0] (1 : Int))
       (
        G_g53 q947 u948
        (fun b951 =>
        cond (!b951)
        (
        k1033 false [0, 0, 0, 0, 0, 0] (1 : Int))
        (
        G_g61 q945 u946 q947 u948 false
        (fun b1027 l1028 b1029 =>
        G_g56 b1027 l1028 b1029
        (fun b1030 l1031 x1032 =>
        k1033 b1030 l1031 x1032))))))
def g16 {α : Type} (m : Nat) : Bool → (List Int) → Bool → (List Int) → (Bool → (List Int) → Int → Option α) → Option α :=
  g16b (g53 m) (g61 m) (g56 m)
def g16tp : List TP := [(.vl (.agg [(.one .bool), (.seq (.int .u32) 6)])), (.vl (.agg [(.one .bool), (.seq (.int .u32) 6)]))]
def g16bp : List BP := []
def g16K {α : Type} (G : Bool → (List Int) → Bool → (List Int) → (Bool → (List Int) → Int → Option α) → Option α) (ls : List Lf) (k : TV → List (List Seg) → List (List Seg) → Option α) : Option α :=
  G (lf ls 0).bool ((lf ls 1).lst (.int .u32)) (lf ls 2).bool ((lf ls 3).lst (.int .u32))
    (fun y0 y1 y2 => k (.tup [(.agg [(.one (.bool y0)), (.seq (.int .u32) 6 y1)]), (.sv (.int .i64 y2))]) [] [])
def g16hd (G_g53 : {α : Type} → Bool → (List Int) → (Bool → Option α) → Option α) (G_g61 : {α : Type} → Bool → (List Int) → Bool → (List Int) → Bool → (Bool → (List Int) → Bool → Option α) → Option α) (G_g56 : {α : Type} → Bool → (List Int) → Bool → (Bool → (List Int) → Int → Option α) → Option α)  : Hd where
  call := fun f args Bs k => cond (Nat.beq f 53) (rowK g53tp g53bp (g53K G_g53) args Bs k) (cond (Nat.beq f 61) (rowK g61tp g61bp (g61K G_g61) args Bs k) (cond (Nat.beq f 56) (rowK g56tp g56bp (g56K G_g56) args Bs k) (none)))
  loop := fun id st k => none
  ro := fun f => cond (Nat.beq f 56) [0] ([])
def g16h (m : Nat) : Hd := g16hd (g53 m) (g61 m) (g56 m)
theorem g16Main (G_g53 : {α : Type} → Bool → (List Int) → (Bool → Option α) → Option α) (G_g61 : {α : Type} → Bool → (List Int) → Bool → (List Int) → Bool → (Bool → (List Int) → Bool → Option α) → Option α) (G_g56 : {α : Type} → Bool → (List Int) → Bool → (Bool → (List Int) → Int → Option α) → Option α)  {α : Type} (ls : List Lf) (k : TV → List (List Seg) → List (List Seg) → Option α) :
    g16K (g16b G_g53 G_g61 G_g56) ls k = evFun tab (g16hd G_g53 G_g61 G_g56) Go.Proofs.Try.f16 (fillT g16tp ls).1 (fillB g16bp (fillT g16tp ls).2).1 k := by kernel_rfl
theorem g16Calls (m : Nat) : (g16h m).CallsOk Go.Proofs.Try.prog := (cok_cons (g53Ok m) (cok_cons (g61Ok m) (cok_cons (g56Ok m) cok_nil)))
theorem g16Fn (m : Nat) : FnOk Go.Proofs.Try.prog 16 g16tp g16bp (fun {α} => g16K (g16 (α := α) m)) :=
  fn_ok (tab := tab) (h := g16h m) (fn := Go.Proofs.Try.f16) (F := fun {α} => g16K (g16 (α := α) m)) tabOk (g16Calls m) mixed (by kernel_rfl) (by kernel_rfl) (fun c hc => by
    rw [bodyOf_some hc]
    exact loopsOk_of _ (fun p hp => by rw [show loopsOf (bodyOf Go.Proofs.Try.f16) = [] by kernel_rfl] at hp; cases hp))
    (fun α ls k => g16Main (g53 m) (g61 m) (g56 m) ls k)
theorem g16Ok (m : Nat) : RowOk Go.Proofs.Try.prog 16 (fun {α} => rowK g16tp g16bp (g16K (g16 (α := α) m))) := row_of (g16Fn m)

/-! ### g17: impl.AddWides -/
def g17b {α : Type} (G_g53 : {α : Type} → Bool → (List Int) → (Bool → Option α) → Option α) (G_g62 : {α : Type} → Bool → (List Int) → Bool → (List Int) → Bool → (Bool → (List Int) → Bool → Option α) → Option α) (G_g56 : {α : Type} → Bool → (List Int) → Bool → (Bool → (List Int) → Int → Option α) → Option α)  (q1038 : Bool) (u1039 : List Int) (q1040 : Bool) (u1041 : List Int) (k1052 : Bool → (List Int) → Int → Option α) : Option α :=
  G_g53 q1038 u1039
    (fun b1042 =>
      cond (!b1042)
       (
        k1052 false [0, 0, 0, 0, 0, 0] (1 : Int))
       (
        G_g53 q1040 u1041
        (fun b1044 =>
        cond (!b1044)
        (
        k1052 false [0, 0, 0, 0, 0, 0] (1 : Int))
        (
        G_g62 q1038 u1039 q1040 u1041 false
        (fun b1046 l1047 b1048 =>
        G_g56 b1046 l1047 b1048
        (fun b1049 l1050 x1051 =>
        k1052 b1049 l1050 x1051))))))
def g17 {α : Type} (m : Nat) : Bool → (List Int) → Bool → (List Int) → (Bool → (List Int) → Int → Option α) → Option α :=
  g17b (g53 m) (g62 m) (g56 m)
def g17tp : List TP := [(.vl (.agg [(.one .bool), (.seq (.int .u32) 6)])), (.vl (.agg [(.one .bool), (.seq (.int .u32) 6)]))]
def g17bp : List BP := []
def g17K {α : Type} (G : Bool → (List Int) → Bool → (List Int) → (Bool → (List Int) → Int → Option α) → Option α) (ls : List Lf) (k : TV → List (List Seg) → List (List Seg) → Option α) : Option α :=
  G (lf ls 0).bool ((lf ls 1).lst (.int .u32)) (lf ls 2).bool ((lf ls 3).lst (.int .u32))
    (fun y0 y1 y2 => k (.tup [(.agg [(.one (.bool y0)), (.seq (.int .u32) 6 y1)]), (.sv (.int .i64 y2))]) [] [])
def g17hd (G_g53 : {α : Type} → Bool → (List Int) → (Bool → Option α) → Option α) (G_g62 : {α : Type} → Bool → (List Int) → Bool → (List Int) → Bool → (Bool → (List Int) → Bool → Option α) → Option α) (G_g56 : {α : Type} → Bool → (List Int) → Bool → (Bool → (List Int) → Int → Option α) → Option α)  : Hd where
  call := fun f args Bs k => cond (Nat.beq f 53) (rowK g53tp g53bp (g53K G_g53) args Bs k) (cond (Nat.beq f 62) (rowK g62tp g62bp (g62K G_g62) args Bs k) (cond (Nat.beq f 56) (rowK g56tp g56bp (g56K G_g56) args Bs k) (none)))
  loop := fun id st k => none
  ro := fun f => cond (Nat.beq f 56) [0] ([])
def g17h (m : Nat) : Hd := g17hd (g53 m) (g62 m) (g56 m)
theorem g17Main (G_g53 : {α : Type} → Bool → (List Int) → (Bool → Option α) → Option α) (G_g62 : {α : Type} → Bool → (List Int) → Bool → (List Int) → Bool → (Bool → (List Int) → Bool → Option α) → Option α) (G_g56 : {α : Type} → Bool → (List Int) → Bool → (Bool → (List Int) → Int → Option α) → Option α)  {α : Type} (ls : List Lf) (k : TV → List (List Seg) → List (List Seg) → Option α) :
    g17K (g17b G_g53 G_g62 G_g56) ls k = evFun tab (g17hd G_g53 G_g62 G_g56) Go.Proofs.Try.f17 (fillT g17tp ls).1 (fillB g17bp (fillT g17tp ls).2).1 k := by kernel_rfl
theorem g17Calls (m : Nat) : (g17h m).CallsOk Go.Proofs.Try.prog := (cok_cons (g53Ok m) (cok_cons (g62Ok m) (cok_cons (g56Ok m) cok_nil)))
theorem g17Fn (m : Nat) : FnOk Go.Proofs.Try.prog 17 g17tp g17bp (fun {α} => g17K (g17 (α := α) m)) :=
  fn_ok (tab := tab) (h := g17h m) (fn := Go.Proofs.Try.f17) (F := fun {α} => g17K (g17 (α := α) m)) tabOk (g17Calls m) mixed (by kernel_rfl) (by kernel_rfl) (fun c hc => by
    rw [bodyOf_some hc]
    exact loopsOk_of _ (fun p hp => by rw [show loopsOf (bodyOf Go.Proofs.Try.f17) = [] by kernel_rfl] at hp; cases hp))
    (fun α ls k => g17Main (g53 m) (g62 m) (g56 m) ls k)
theorem g17Ok (m : Nat) : RowOk Go.Proofs.Try.prog 17 (fun {α} => rowK g17tp g17bp (g17K (g17 (α := α) m))) := row_of (g17Fn m)

/-! ### g104: impl.opposite -/
def g104b {α : Type} (G_g64 : {α : Type} → Bool → (List Int) → (Bool → Option α) → Option α)  (q1071 : Bool) (u1072 : List Int) (k1075 : Bool → Option α) : Option α :=
  G_g64 (!q1071) u1072
    (fun b1074 =>
      k1075 b1074)
def g104 {α : Type} (m : Nat) : Bool → (List Int) → (Bool → Option α) → Option α :=
  g104b (g64 m)
def g104tp : List TP := [(.vl (.agg [(.one .bool), (.seq (.int .u32) 6)]))]
def g104bp : List BP := []
def g104K {α : Type} (G : Bool → (List Int) → (Bool → Option α) → Option α) (ls : List Lf) (k : TV → List (List Seg) → List (List Seg) → Option α) : Option α :=
  G (lf ls 0).bool ((lf ls 1).lst (.int .u32))
    (fun y0 => k (.vl (.agg [(.one (.bool y0)), (.seq (.int .u32) 6 ((lf ls 1).lst (.int .u32)))])) [] [])
def g104hd (G_g64 : {α : Type} → Bool → (List Int) → (Bool → Option α) → Option α)  : Hd where
  call := fun f args Bs k => cond (Nat.beq f 64) (rowK g64tp g64bp (g64K G_g64) args Bs k) (none)
  loop := fun id st k => none
  ro := fun f => []
def g104h (m : Nat) : Hd := g104hd (g64 m)
theorem g104Main (G_g64 : {α : Type} → Bool → (List Int) → (Bool → Option α) → Option α)  {α : Type} (ls : List Lf) (k : TV → List (List Seg) → List (List Seg) → Option α) :
    g104K (g104b G_g64) ls k = evFun tab (g104hd G_g64) Go.Proofs.Try.f104 (fillT g104tp ls).1 (fillB g104bp (fillT g104tp ls).2).1 k := by kernel_rfl
theorem g104Calls (m : Nat) : (g104h m).CallsOk Go.Proofs.Try.prog := (cok_cons (g64Ok m) cok_nil)
theorem g104Fn (m : Nat) : FnOk Go.Proofs.Try.prog 104 g104tp g104bp (fun {α} => g104K (g104 (α := α) m)) :=
  fn_ok (tab := tab) (h := g104h m) (fn := Go.Proofs.Try.f104) (F := fun {α} => g104K (g104 (α := α) m)) tabOk (g104Calls m) mixed (by kernel_rfl) (by kernel_rfl) (fun c hc => by
    rw [bodyOf_some hc]
    exact loopsOk_of _ (fun p hp => by rw [show loopsOf (bodyOf Go.Proofs.Try.f104) = [] by kernel_rfl] at hp; cases hp))
    (fun α ls k => g104Main (g64 m) ls k)
theorem g104Ok (m : Nat) : RowOk Go.Proofs.Try.prog 104 (fun {α} => rowK g104tp g104bp (g104K (g104 (α := α) m))) := row_of (g104Fn m)

/-! ### g63: (*impl.calc).sub -/
def g63b {α : Type} (G_g104 : {α : Type} → Bool → (List Int) → (Bool → Option α) → Option α) (G_g62 : {α : Type} → Bool → (List Int) → Bool → (List Int) → Bool → (Bool → (List Int) → Bool → Option α) → Option α)  (q1066 : Bool) (u1067 : List Int) (q1068 : Bool) (u1069 : List Int) (q1070 : Bool) (k1080 : Bool → (List Int) → Bool → Option α) : Option α :=
  G_g104 q1068 u1069
    (fun b1076 =>
      G_g62 q1066 u1067 b1076 u1069 q1070
        (fun b1077 l1078 b1079 =>
        k1080 b1077 l1078 b1079))
def g63 {α : Type} (m : Nat) : Bool → (List Int) → Bool → (List Int) → Bool → (Bool → (List Int) → Bool → Option α) → Option α :=
  g63b (g104 m) (g62 m)
def g63tp : List TP := [(.vl (.sv (.ptr 0 0))), (.vl (.agg [(.one .bool), (.seq (.int .u32) 6)])), (.vl (.agg [(.one .bool), (.seq (.int .u32) 6)]))]
def g63bp : List BP := [(true, [(.one .bool)])]
def g63K {α : Type} (G : Bool → (List Int) → Bool → (List Int) → Bool → (Bool → (List Int) → Bool → Option α) → Option α) (ls : List Lf) (k : TV → List (List Seg) → List (List Seg) → Option α) : Option α :=
  G (lf ls 0).bool ((lf ls 1).lst (.int .u32)) (lf ls 2).bool ((lf ls 3).lst (.int .u32)) (lf ls 4).bool
    (fun y0 y1 y2 => k (.vl (.agg [(.one (.bool y0)), (.seq (.int .u32) 6 y1)])) [[(.one (.bool y2))]] [])
def g63hd (G_g104 : {α : Type} → Bool → (List Int) → (Bool → Option α) → Option α) (G_g62 : {α : Type} → Bool → (List Int) → Bool → (List Int) → Bool → (Bool → (List Int) → Bool → Option α) → Option α)  : Hd where
  call := fun f args Bs k => cond (Nat.beq f 104) (rowK g104tp g104bp (g104K G_g104) args Bs k) (cond (Nat.beq f 62) (rowK g62tp g62bp (g62K G_g62) args Bs k) (none))
  loop := fun id st k => none
  ro := fun f => []
def g63h (m : Nat) : Hd := g63hd (g104 m) (g62 m)
theorem g63Main (G_g104 : {α : Type} → Bool → (List Int) → (Bool → Option α) → Option α) (G_g62 : {α : Type} → Bool → (List Int) → Bool → (List Int) → Bool → (Bool → (List Int) → Bool → Option α) → Option α)  {α : Type} (ls : List Lf) (k : TV → List (List Seg) → List (List Seg) → Option α) :
    g63K (g63b G_g104 G_g62) ls k = evFun tab (g63hd G_g104 G_g62) Go.Proofs.Try.f63 (fillT g63tp ls).1 (fillB g63bp (fillT g63tp ls).2).1 k := by kernel_rfl
theorem g63Calls (m : Nat) : (g63h m).CallsOk Go.Proofs.Try.prog := (cok_cons (g104Ok m) (cok_cons (g62Ok m) cok_nil))
theorem g63Fn (m : Nat) : FnOk Go.Proofs.Try.prog 63 g63tp g63bp (fun {α} => g63K (g63 (α := α) m)) :=
  fn_ok (tab := tab) (h := g63h m) (fn := Go.Proofs.Try.f63) (F := fun {α} => g63K (g63 (α := α) m)) tabOk (g63Calls m) mixed (by kernel_rfl) (by kernel_rfl) (fun c hc => by
    rw [bodyOf_some hc]
    exact loopsOk_of _ (fun p hp => by rw [show loopsOf (bodyOf Go.Proofs.Try.f63) = [] by kernel_rfl] at hp; cases hp))
    (fun α ls k => g63Main (g104 m) (g62 m) ls k)
theorem g63Ok (m : Nat) : RowOk Go.Proofs.Try.prog 63 (fun {α} => rowK g63tp g63bp (g63K (g63 (α := α) m))) := row_of (g63Fn m)

/-! ### g18: impl.SubWides -/
def g18b {α : Type} (G_g53 : {α : Type} → Bool → (List Int) → (Bool → Option α) → Option α) (G_g63 : {α : Type} → Bool → (List Int) → Bool → (List Int) → Bool → (Bool → (List Int) → Bool → Option α) → Option α) (G_g56 : {α : Type} → Bool → (List Int) → Bool → (Bool → (List Int) → Int → Option α) → Option α)  (q1058 : Bool) (u1059 : List Int) (q1060 : Bool) (u1061 : List Int) (k1087 : Bool → (List Int) → Int → Option α) : Option α :=
  G_g53 q1058 u1059
    (fun b1062 =>
      cond (!b1062)
       (
        k1087 false [0, 0, 0, 0, 0, 0] (1 : Int))
       (
        G_g53 q1060 u1061
        (fun b1064 =>
        cond (!b1064)
        (
        k1087 false [0, 0, 0, 0, 0, 0] (1 : Int))
        (
        G_g63 q1058 u1059 q1060 u1061 false
        (fun b1081 l1082 b1083 =>
        G_g56 b1081 l1082 b1083
        (fun b1084 l1085 x1086 =>
        k1087 b1084 l1085 x1086))))))
def g18 {α : Type} (m : Nat) : Bool → (List Int) → Bool → (List Int) → (Bool → (List Int) → Int → Option α) → Option α :=
  g18b (g53 m) (g63 m) (g56 m)
def g18tp : List TP := [(.vl (.agg [(.one .bool), (.seq (.int .u32) 6)])), (.vl (.agg [(.one .bool), (.seq (.int .u32) 6)]))]
def g18bp : List BP := []
def g18K {α : Type} (G : Bool → (List Int) → Bool → (List Int) → (Bool → (List Int) → Int → Option α) → Option α) (ls : List Lf) (k : TV → List (List Seg) → List (List Seg) → Option α) : Option α :=
  G (lf ls 0).bool ((lf ls 1).lst (.int .u32)) (lf ls 2).bool ((lf ls 3).lst (.int .u32))
    (fun y0 y1 y2 => k (.tup [(.agg [(.one (.bool y0)), (.seq (.int .u32) 6 y1)]), (.sv (.int .i64 y2))]) [] [])
def g18hd (G_g53 : {α : Type} → Bool → (List Int) → (Bool → Option α) → Option α) (G_g63 : {α : Type} → Bool → (List Int) → Bool → (List Int) → Bool → (Bool → (List Int) → Bool → Option α) → Option α) (G_g56 : {α : Type} → Bool → (List Int) → Bool → (Bool → (List Int) → Int → Option α) → Option α)  : Hd where
  call := fun f args Bs k => cond (Nat.beq f 53) (rowK g53tp g53bp (g53K G_g53) args Bs k) (cond (Nat.beq f 63) (rowK g63tp g63bp (g63K G_g63) args Bs k) (cond (Nat.beq f 56) (rowK g56tp g56bp (g56K G_g56) args Bs k) (none)))
  loop := fun id st k => none
  ro := fun f => cond (Nat.beq f 56) [0] ([])
def g18h (m : Nat) : Hd := g18hd (g53 m) (g63 m) (g56 m)
theorem g18Main (G_g53 : {α : Type} → Bool → (List Int) → (Bool → Option α) → Option α) (G_g63 : {α : Type} → Bool → (List Int) → Bool → (List Int) → Bool → (Bool → (List Int) → Bool → Option α) → Option α) (G_g56 : {α : Type} → Bool → (List Int) → Bool → (Bool → (List Int) → Int → Option α) → Option α)  {α : Type} (ls : List Lf) (k : TV → List (List Seg) → List (List Seg) → Option α) :
    g18K (g18b G_g53 G_g63 G_g56) ls k = evFun tab (g18hd G_g53 G_g63 G_g56) Go.Proofs.Try.f18 (fillT g18tp ls).1 (fillB g18bp (fillT g18tp ls).2).1 k := by kernel_rfl
theorem g18Calls (m : Nat) : (g18h m).CallsOk Go.Proofs.Try.prog := (cok_cons (g53Ok m) (cok_cons (g63Ok m) (cok_cons (g56Ok m) cok_nil)))
theorem g18Fn (m : Nat) : FnOk Go.Proofs.Try.prog 18 g18tp g18bp (fun {α} => g18K (g18 (α := α) m)) :=
  fn_ok (tab := tab) (h := g18h m) (fn := Go.Proofs.Try.f18) (F := fun {α} => g18K (g18 (α := α) m)) tabOk (g18Calls m) mixed (by kernel_rfl) (by kernel_rfl) (fun c hc => by
    rw [bodyOf_some hc]
    exact loopsOk_of _ (fun p hp => by rw [show loopsOf (bodyOf Go.Proofs.Try.f18) = [] by kernel_rfl] at hp; cases hp))
    (fun α ls k => g18Main (g53 m) (g63 m) (g56 m) ls k)
theorem g18Ok (m : Nat) : RowOk Go.Proofs.Try.prog 18 (fun {α} => rowK g18tp g18bp (g18K (g18 (α := α) m))) := row_of (g18Fn m)

/-! ### g65: spec.l01Add -/
def g65b {α : Type} (G_g101 : {α : Type} → (List Int) → (List Int) → ((List Int) → Bool → Option α) → Option α) (G_g52 : {α : Type} → Bool → (List Int) → (Bool → Option α) → Option α) (G_g105 : {α : Type} → (List Int) → (List Int) → (Int → Option α) → Option α) (G_g102 : {α : Type} → (List Int) → (List Int) → ((List Int) → Option α) → Option α)  (q1106 : Bool) (u1107 : List Int) (q1108 : Bool) (u1109 : List Int) (k1121 : Bool → (List Int) → Int → Option α) : Option α :=
  cond (q1106 == q1108)
   (
    G_g101 u1107 u1109
      (fun l1111 b1112 =>
        cond (!b1112)
        (
        k1121 false [0, 0, 0, 0, 0, 0] (3 : Int))
        (
        G_g52 q1106 l1111
        (fun b1114 =>
        k1121 b1114 l1111 (0 : Int)))))
   (
    G_g105 u1107 u1109
      (fun x1115 =>
        cond (decide (x1115 ≥ (0 : Int)))
        (
        G_g102 u1107 u1109
        (fun l1117 =>
        G_g52 q1106 l1117
        (fun b1118 =>
        k1121 b1118 l1117 (0 : Int))))
        (
        G_g102 u1109 u1107
        (fun l1119 =>
        G_g52 q1108 l1119
        (fun b1120 =>
        k1121 b1120 l1119 (0 : Int))))))
def g65 {α : Type} (m : Nat) : Bool → (List Int) → Bool → (List Int) → (Bool → (List Int) → Int → Option α) → Option α :=
  g65b (g101 m) (g52 m) (g105 m) (g102 m)
def g65tp : List TP := [(.vl (.agg [(.one .bool), (.seq (.int .u32) 6)])), (.vl (.agg [(.one .bool), (.seq (.int .u32) 6)]))]
def g65bp : List BP := []
def g65K {α : Type} (G : Bool → (List Int) → Bool → (List Int) → (Bool → (List Int) → Int → Option α) → Option α) (ls : List Lf) (k : TV → List (List Seg) → List (List Seg) → Option α) : Option α :=
  G (lf ls 0).bool ((lf ls 1).lst (.int .u32)) (lf ls 2).bool ((lf ls 3).lst (.int .u32))
    (fun y0 y1 y2 => k (.tup [(.agg [(.one (.bool y0)), (.seq (.int .u32) 6 y1)]), (.sv (.int .i64 y2))]) [] [])
def g65hd (G_g101 : {α : Type} → (List Int) → (List Int) → ((List Int) → Bool → Option α) → Option α) (G_g52 : {α : Type} → Bool → (List Int) → (Bool → Option α) → Option α) (G_g105 : {α : Type} → (List Int) → (List Int) → (Int → Option α) → Option α) (G_g102 : {α : Type} → (List Int) → (List Int) → ((List Int) → Option α) → Option α)  : Hd where
  call := fun f args Bs k => cond (Nat.beq f 101) (rowK g101tp g101bp (g101K G_g101) args Bs k) (cond (Nat.beq f 52) (rowK g52tp g52bp (g52K G_g52) args Bs k) (cond (Nat.beq f 105) (rowK g105tp g105bp (g105K G_g105) args Bs k) (cond (Nat.beq f 102) (rowK g102tp g102bp (g102K G_g102) args Bs k) (none))))
  loop := fun id st k => none
  ro := fun f => cond (Nat.beq f 101) [0, 1] (cond (Nat.beq f 102) [0, 1] (cond (Nat.beq f 105) [0, 1] ([])))
def g65h (m : Nat) : Hd := g65hd (g101 m) (g52 m) (g105 m) (g102 m)
theorem g65Main (G_g101 : {α : Type} → (List Int) → (List Int) → ((List Int) → Bool → Option α) → Option α) (G_g52 : {α : Type} → Bool → (List Int) → (Bool → Option α) → Option α) (G_g105 : {α : Type} → (List Int) → (List Int) → (Int → Option α) → Option α) (G_g102 : {α : Type} → (List Int) → (List Int) → ((List Int) → Option α) → Option α)  {α : Type} (ls : List Lf) (k : TV → List (List Seg) → List (List Seg) → Option α) :
    g65K (g65b G_g101 G_g52 G_g105 G_g102) ls k = evFun tab (g65hd G_g101 G_g52 G_g105 G_g102) Go.Proofs.Try.f65 (fillT g65tp ls).1 (fillB g65bp (fillT g65tp ls).2).1 k := by kernel_rfl
theorem g65Calls (m : Nat) : (g65h m).CallsOk Go.Proofs.Try.prog := (cok_cons (g101Ok m) (cok_cons (g52Ok m) (cok_cons (g105Ok m) (cok_cons (g102Ok m) cok_nil))))
theorem g65Fn (m : Nat) : FnOk Go.Proofs.Try.prog 65 g65tp g65bp (fun {α} => g65K (g65 (α := α) m)) :=
  fn_ok (tab := tab) (h := g65h m) (fn := Go.Proofs.Try.f65) (F := fun {α} => g65K (g65 (α := α) m)) tabOk (g65Calls m) mixed (by kernel_rfl) (by kernel_rfl) (fun c hc => by
    rw [bodyOf_some hc]
    exact loopsOk_of _ (fun p hp => by rw [show loopsOf (bodyOf Go.Proofs.Try.f65) = [] by kernel_rfl] at hp; cases hp))
    (fun α ls k => g65Main (g101 m) (g52 m) (g105 m) (g102 m) ls k)
theorem g65Ok (m : Nat) : RowOk Go.Proofs.Try.prog 65 (fun {α} => rowK g65tp g65bp (g65K (g65 (α := α) m))) := row_of (g65Fn m)

/-! ### g20: spec.AddWides -/
def g20b {α : Type} (G_g58 : {α : Type} → Bool → (List Int) → (Bool → Option α) → Option α) (G_g65 : {α : Type} → Bool → (List Int) → Bool → (List Int) → (Bool → (List Int) → Int → Option α) → Option α)  (q1098 : Bool) (u1099 : List Int) (q1100 : Bool) (u1101 : List Int) (k1125 : Bool → (List Int) → Int → Option α) : Option α :=
  G_g58 q1098 u1099
    (fun b1102 =>
      cond (!b1102)
       (
        k1125 false [0, 0, 0, 0, 0, 0] (1 : Int))
       (
        G_g58 q1100 u1101
        (fun b1104 =>
        cond (!b1104)
        (
        k1125 false [0, 0, 0, 0, 0, 0] (1 : Int))
        (
        G_g65 q1098 u1099 q1100 u1101
        (fun b1122 l1123 x1124 =>
        k1125 b1122 l1123 x1124)))))
def g20 {α : Type} (m : Nat) : Bool → (List Int) → Bool → (List Int) → (Bool → (List Int) → Int → Option α) → Option α :=
  g20b (g58 m) (g65 m)
def g20tp : List TP := [(.vl (.agg [(.one .bool), (.seq (.int .u32) 6)])), (.vl (.agg [(.one .bool), (.seq (.int .u32) 6)]))]
def g20bp : List BP := []
def g20K {α : Type} (G : Bool → (List Int) → Bool → (List Int) → (Bool → (List Int) → Int → Option α) → Option α) (ls : List Lf) (k : TV → List (List Seg) → List (List Seg) → Option α) : Option α :=
  G (lf ls 0).bool ((lf ls 1).lst (.int .u32)) (lf ls 2).bool ((lf ls 3).lst (.int .u32))
    (fun y0 y1 y2 => k (.tup [(.agg [(.one (.bool y0)), (.seq (.int .u32) 6 y1)]), (.sv (.int .i64 y2))]) [] [])
def g20hd (G_g58 : {α : Type} → Bool → (List Int) → (Bool → Option α) → Option α) (G_g65 : {α : Type} → Bool → (List Int) → Bool → (List Int) → (Bool → (List Int) → Int → Option α) → Option α)  : Hd where
  call := fun f args Bs k => cond (Nat.beq f 58) (rowK g58tp g58bp (g58K G_g58) args Bs k) (cond (Nat.beq f 65) (rowK g65tp g65bp (g65K G_g65) args Bs k) (none))
  loop := fun id st k => none
  ro := fun f => cond (Nat.beq f 58) [0] ([])
def g20h (m : Nat) : Hd := g20hd (g58 m) (g65 m)
theorem g20Main (G_g58 : {α : Type} → Bool → (List Int) → (Bool → Option α) → Option α) (G_g65 : {α : Type} → Bool → (List Int) → Bool → (List Int) → (Bool → (List Int) → Int → Option α) → Option α)  {α : Type} (ls : List Lf) (k : TV → List (List Seg) → List (List Seg) → Option α) :
    g20K (g20b G_g58 G_g65) ls k = evFun tab (g20hd G_g58 G_g65) Go.Proofs.Try.f20 (fillT g20tp ls).1 (fillB g20bp (fillT g20tp ls).2).1 k := by kernel_rfl
theorem g20Calls (m : Nat) : (g20h m).CallsOk Go.Proofs.Try.prog := (cok_cons (g58Ok m) (cok_cons (g65Ok m) cok_nil))
theorem g20Fn (m : Nat) : FnOk Go.Proofs.Try.prog 20 g20tp g20bp (fun {α} => g20K (g20 (α := α) m)) :=
  fn_ok (tab := tab) (h := g20h m) (fn := Go.Proofs.Try.f20) (F := fun {α} => g20K (g20 (α := α) m)) tabOk (g20Calls m) mixed (by kernel_rfl) (by kernel_rfl) (fun c hc => by
    rw [bodyOf_some hc]
    exact loopsOk_of _ (fun p hp => by rw [show loopsOf (bodyOf Go.Proofs.Try.f20) = [] by kernel_rfl] at hp; cases hp))
    (fun α ls k => g20Main (g58 m) (g65 m) ls k)
theorem g20Ok (m : Nat) : RowOk Go.Proofs.Try.prog 20 (fun {α} => rowK g20tp g20bp (g20K (g20 (α := α) m))) := row_of (g20Fn m)

/-! ### g66: spec.l01Compare -/
def g66b {α : Type} (G_g105 : {α : Type} → (List Int) → (List Int) → (Int → Option α) → Option α)  (q1137 : Bool) (u1138 : List Int) (q1139 : Bool) (u1140 : List Int) (k1152 : Int → Option α) : Option α :=
  cond q1137
   (
    cond (!q1139)
     (
      k1152 (-1 : Int))
     (
      cond (!q1137)
       (
        cond q1139
        (
        k1152 (1 : Int))
        (
        cond q1137
        (
        G_g105 u1140 u1138
        (fun x1143 =>
        k1152 x1143))
        (
        G_g105 u1138 u1140
        (fun x1144 =>
        k1152 x1144))))
       (
        cond q1137
        (
        G_g105 u1140 u1138
        (fun x1145 =>
        k1152 x1145))
        (
        G_g105 u1138 u1140
        (fun x1146 =>
        k1152 x1146)))))
   (
    cond (!q1137)
     (
      cond q1139
       (
        k1152 (1 : Int))
       (
        cond q1137
        (
        G_g105 u1140 u1138
        (fun x1148 =>
        k1152 x1148))
        (
        G_g105 u1138 u1140
        (fun x1149 =>
        k1152 x1149))))
     (
      cond q1137
       (
        G_g105 u1140 u1138
        (fun x1150 =>
        k1152 x1150))
       (
        G_g105 u1138 u1140
        (fun x1151 =>
        k1152 x1151))))
def g66 {α : Type} (m : Nat) : Bool → (List Int) → Bool → (List Int) → (Int → Option α) → Option α :=
  g66b (g105 m)
def g66tp : List TP := [(.vl (.sv (.ptr 0 0))), (.vl (.sv (.ptr 1 0)))]
def g66bp : List BP := [(false, [(.one .bool), (.seq (.int .u32) 6)]), (false, [(.one .bool), (.seq (.int .u32) 6)])]
def g66K {α : Type} (G : Bool → (List Int) → Bool → (List Int) → (Int → Option α) → Option α) (ls : List Lf) (k : TV → List (List Seg) → List (List Seg) → Option α) : Option α :=
  G (lf ls 0).bool ((lf ls 1).lst (.int .u32)) (lf ls 2).bool ((lf ls 3).lst (.int .u32))
    (fun y0 => k (.vl (.sv (.int .i64 y0))) [[(.one (.bool (lf ls 0).bool)), (.seq (.int .u32) 6 ((lf ls 1).lst (.int .u32)))], [(.one (.bool (lf ls 2).bool)), (.seq (.int .u32) 6 ((lf ls 3).lst (.int .u32)))]] [])
def g66hd (G_g105 : {α : Type} → (List Int) → (List Int) → (Int → Option α) → Option α)  : Hd where
  call := fun f args Bs k => cond (Nat.beq f 105) (rowK g105tp g105bp (g105K G_g105) args Bs k) (none)
  loop := fun id st k => none
  ro := fun f => cond (Nat.beq f 105) [0, 1] ([])
def g66h (m : Nat) : Hd := g66hd (g105 m)
theorem g66Main (G_g105 : {α : Type} → (List Int) → (List Int) → (Int → Option α) → Option α)  {α : Type} (ls : List Lf) (k : TV → List (List Seg) → List (List Seg) → Option α) :
    g66K (g66b G_g105) ls k = evFun tab (g66hd G_g105) Go.Proofs.Try.f66 (fillT g66tp ls).1 (fillB g66bp (fillT g66tp ls).2).1 k := by kernel_rfl
theorem g66Calls (m : Nat) : (g66h m).CallsOk Go.Proofs.Try.prog := (cok_cons (g105Ok m) cok_nil)
theorem g66Fn (m : Nat) : FnOk Go.Proofs.Try.prog 66 g66tp g66bp (fun {α} => g66K (g66 (α := α) m)) :=
  fn_ok (tab := tab) (h := g66h m) (fn := Go.Proofs.Try.f66) (F := fun {α} => g66K (g66 (α := α) m)) tabOk (g66Calls m) mixed (by kernel_rfl) (by kernel_rfl) (fun c hc => by
    rw [bodyOf_some hc]
    exact loopsOk_of _ (fun p hp => by rw [show loopsOf (bodyOf Go.Proofs.Try.f66) = [] by kernel_rfl] at hp; cases hp))
    (fun α ls k => g66Main (g105 m) ls k)
theorem g66Ok (m : Nat) : RowOk Go.Proofs.Try.prog 66 (fun {α} => rowK g66tp g66bp (g66K (g66 (α := α) m))) := row_of (g66Fn m)

/-! ### g21: spec.CompareWides -/
def g21b {α : Type} (G_g58 : {α : Type} → Bool → (List Int) → (Bool → Option α) → Option α) (G_g66 : {α : Type} → Bool → (List Int) → Bool → (List Int) → (Int → Option α) → Option α)  (q1129 : Bool) (u1130 : List Int) (q1131 : Bool) (u1132 : List Int) (k1154 : Int → Int → Option α) : Option α :=
  G_g58 q1129 u1130
    (fun b1133 =>
      cond (!b1133)
       (
        k1154 (0 : Int) (1 : Int))
       (
        G_g58 q1131 u1132
        (fun b1135 =>
        cond (!b1135)
        (
        k1154 (0 : Int) (1 : Int))
        (
        G_g66 q1129 u1130 q1131 u1132
        (fun x1153 =>
        k1154 x1153 (0 : Int))))))
def g21 {α : Type} (m : Nat) : Bool → (List Int) → Bool → (List Int) → (Int → Int → Option α) → Option α :=
  g21b (g58 m) (g66 m)
def g21tp : List TP := [(.vl (.agg [(.one .bool), (.seq (.int .u32) 6)])), (.vl (.agg [(.one .bool), (.seq (.int .u32) 6)]))]
def g21bp : List BP := []
def g21K {α : Type} (G : Bool → (List Int) → Bool → (List Int) → (Int → Int → Option α) → Option α) (ls : List Lf) (k : TV → List (List Seg) → List (List Seg) → Option α) : Option α :=
  G (lf ls 0).bool ((lf ls 1).lst (.int .u32)) (lf ls 2).bool ((lf ls 3).lst (.int .u32))
    (fun y0 y1 => k (.tup [(.sv (.int .i64 y0)), (.sv (.int .i64 y1))]) [] [])
def g21hd (G_g58 : {α : Type} → Bool → (List Int) → (Bool → Option α) → Option α) (G_g66 : {α : Type} → Bool → (List Int) → Bool → (List Int) → (Int → Option α) → Option α)  : Hd where
  call := fun f args Bs k => cond (Nat.beq f 58) (rowK g58tp g58bp (g58K G_g58) args Bs k) (cond (Nat.beq f 66) (rowK g66tp g66bp (g66K G_g66) args Bs k) (none))
  loop := fun id st k => none
  ro := fun f => cond (Nat.beq f 58) [0] (cond (Nat.beq f 66) [0, 1] ([]))
def g21h (m : Nat) : Hd := g21hd (g58 m) (g66 m)
theorem g21Main (G_g58 : {α : Type} → Bool → (List Int) → (Bool → Option α) → Option α) (G_g66 : {α : Type} → Bool → (List Int) → Bool → (List Int) → (Int → Option α) → Option α)  {α : Type} (ls : List Lf) (k : TV → List (List Seg) → List (List Seg) → Option α) :
    g21K (g21b G_g58 G_g66) ls k = evFun tab (g21hd G_g58 G_g66) Go.Proofs.Try.f21 (fillT g21tp ls).1 (fillB g21bp (fillT g21tp ls).2).1 k := by kernel_rfl
theorem g21Calls (m : Nat) : (g21h m).CallsOk Go.Proofs.Try.prog := (cok_cons (g58Ok m) (cok_cons (g66Ok m) cok_nil))
theorem g21Fn (m : Nat) : FnOk Go.Proofs.Try.prog 21 g21tp g21bp (fun {α} => g21K (g21 (α := α) m)) :=
  fn_ok (tab := tab) (h := g21h m) (fn := Go.Proofs.Try.f21) (F := fun {α} => g21K (g21 (α := α) m)) tabOk (g21Calls m) mixed (by kernel_rfl) (by kernel_rfl) (fun c hc => by
    rw [bodyOf_some hc]
    exact loopsOk_of _ (fun p hp => by rw [show loopsOf (bodyOf Go.Proofs.Try.f21) = [] by kernel_rfl] at hp; cases hp))
    (fun α ls k => g21Main (g58 m) (g66 m) ls k)
theorem g21Ok (m : Nat) : RowOk Go.Proofs.Try.prog 21 (fun {α} => rowK g21tp g21bp (g21K (g21 (α := α) m))) := row_of (g21Fn m)

/-! ### g22: spec.P6Pick -/
def g22b {α : Type} (G_g51 : {α : Type} → Nat → Nat → Nat → Nat → (List Int) → (Option α) → Option α) (G_g67 : {α : Type} → Int → Nat → Nat → Nat → Int → Int → Nat → (List Int) → (Int → Int → Int → Option α) → Option α)  (m1164 : Nat) (m1165 : Nat) (m1166 : Nat) (p1167 : Int) (m1168 : Nat) (u1169 : List Int) (k1173 : Int → Option α) : Option α :=
  G_g51 m1164 m1165 m1166 m1168 u1169
    (
      G_g67 p1167 m1164 m1165 m1166 (0 : Int) (0 : Int) m1168 u1169
        (fun x1170 x1171 x1172 =>
        k1173 x1170))
def g22 {α : Type} (m : Nat) : Nat → Nat → Nat → Int → Nat → (List Int) → (Int → Option α) → Option α :=
  g22b (g51 m) (g67 m)
def g22tp : List TP := [(.vl (.sv (.sla 0 0 1))), (.vl (.sv (.int .i64)))]
def g22bp : List BP := [(false, [(.seqv (.int .u8))])]
def g22K {α : Type} (G : Nat → Nat → Nat → Int → Nat → (List Int) → (Int → Option α) → Option α) (ls : List Lf) (k : TV → List (List Seg) → List (List Seg) → Option α) : Option α :=
  G (lf ls 0).nat (lf ls 1).nat (lf ls 2).nat (lf ls 3).int (lf ls 4).nat ((lf ls 5).lst (.int .u8))
    (fun y0 => k (.vl (.sv (.int .i64 y0))) [[(.seq (.int .u8) (lf ls 4).nat ((lf ls 5).lst (.int .u8)))]] [])
def g22hd (G_g51 : {α : Type} → Nat → Nat → Nat → Nat → (List Int) → (Option α) → Option α) (G_g67 : {α : Type} → Int → Nat → Nat → Nat → Int → Int → Nat → (List Int) → (Int → Int → Int → Option α) → Option α)  : Hd where
  call := fun f args Bs k => cond (Nat.beq f 51) (rowK g51tp g51bp (g51K G_g51) args Bs k) (cond (Nat.beq f 67) (rowK g67tp g67bp (g67K G_g67) args Bs k) (none))
  loop := fun id st k => none
  ro := fun f => cond (Nat.beq f 51) [0] (cond (Nat.beq f 67) [1] ([]))
def g22h (m : Nat) : Hd := g22hd (g51 m) (g67 m)
theorem g22Main (G_g51 : {α : Type} → Nat → Nat → Nat → Nat → (List Int) → (Option α) → Option α) (G_g67 : {α : Type} → Int → Nat → Nat → Nat → Int → Int → Nat → (List Int) → (Int → Int → Int → Option α) → Option α)  {α : Type} (ls : List Lf) (k : TV → List (List Seg) → List (List Seg) → Option α) :
    g22K (g22b G_g51 G_g67) ls k = evFun tab (g22hd G_g51 G_g67) Go.Proofs.Try.f22 (fillT g22tp ls).1 (fillB g22bp (fillT g22tp ls).2).1 k := by kernel_rfl
theorem g22Calls (m : Nat) : (g22h m).CallsOk Go.Proofs.Try.prog := (cok_cons (g51Ok m) (cok_cons (g67Ok m) cok_nil))
theorem g22Fn (m : Nat) : FnOk Go.Proofs.Try.prog 22 g22tp g22bp (fun {α} => g22K (g22 (α := α) m)) :=
  fn_ok (tab := tab) (h := g22h m) (fn := Go.Proofs.Try.f22) (F := fun {α} => g22K (g22 (α := α) m)) tabOk (g22Calls m) mixed (by kernel_rfl) (by kernel_rfl) (fun c hc => by
    rw [bodyOf_some hc]
    exact loopsOk_of _ (fun p hp => by rw [show loopsOf (bodyOf Go.Proofs.Try.f22) = [] by kernel_rfl] at hp; cases hp))
    (fun α ls k => g22Main (g51 m) (g67 m) ls k)
theorem g22Ok (m : Nat) : RowOk Go.Proofs.Try.prog 22 (fun {α} => rowK g22tp g22bp (g22K (g22 (α := α) m))) := row_of (g22Fn m)

/-! ### g68: impl.within -/
def g68b {α : Type}   (p1182 : Int) (p1183 : Int) (p1184 : Int) (k1187 : Bool → Option α) : Option α :=
  cond (decide (p1182 ≥ p1183))
   (
    k1187 (decide (p1182 ≤ p1184)))
   (
    k1187 false)
def g68 {α : Type} (m : Nat) : Int → Int → Int → (Bool → Option α) → Option α :=
  g68b
def g68tp : List TP := [(.vl (.sv (.int .i64))), (.vl (.sv (.int .i64))), (.vl (.sv (.int .i64)))]
def g68bp : List BP := []
def g68K {α : Type} (G : Int → Int → Int → (Bool → Option α) → Option α) (ls : List Lf) (k : TV → List (List Seg) → List (List Seg) → Option α) : Option α :=
  G (lf ls 0).int (lf ls 1).int (lf ls 2).int
    (fun y0 => k (.vl (.sv (.bool y0))) [] [])
def g68hd   : Hd where
  call := fun f args Bs k => none
  loop := fun id st k => none
  ro := fun f => []
def g68h (m : Nat) : Hd := g68hd
theorem g68Main   {α : Type} (ls : List Lf) (k : TV → List (List Seg) → List (List Seg) → Option α) :
    g68K (g68b) ls k = evFun tab (g68hd) Go.Proofs.Try.f68 (fillT g68tp ls).1 (fillB g68bp (fillT g68tp ls).2).1 k := by kernel_rfl
theorem g68Calls (m : Nat) : (g68h m).CallsOk Go.Proofs.Try.prog := cok_nil
theorem g68Fn (m : Nat) : FnOk Go.Proofs.Try.prog 68 g68tp g68bp (fun {α} => g68K (g68 (α := α) m)) :=
  fn_ok (tab := tab) (h := g68h m) (fn := Go.Proofs.Try.f68) (F := fun {α} => g68K (g68 (α := α) m)) tabOk (g68Calls m) mixed (by kernel_rfl) (by kernel_rfl) (fun c hc => by
    rw [bodyOf_some hc]
    exact loopsOk_of _ (fun p hp => by rw [show loopsOf (bodyOf Go.Proofs.Try.f68) = [] by kernel_rfl] at hp; cases hp))
    (fun α ls k => g68Main ls k)
theorem g68Ok (m : Nat) : RowOk Go.Proofs.Try.prog 68 (fun {α} => rowK g68tp g68bp (g68K (g68 (α := α) m))) := row_of (g68Fn m)

/-! ### g69: (*impl.calc).up -/
def g69b {α : Type} (G_g107 : {α : Type} → (List Int) → (Int → Option α) → Option α) (G_g108 : {α : Type} → (List Int) → Int → ((List Int) → Option α) → Option α) (G_g64 : {α : Type} → Bool → (List Int) → (Bool → Option α) → Option α)  (q1190 : Bool) (u1191 : List Int) (p1192 : Int) (q1193 : Bool) (k1200 : Bool → (List Int) → Bool → Option α) : Option α :=
  cond (decide (p1192 > (191 : Int)))
   (
    k1200 false [0, 0, 0, 0, 0, 0] true)
   (
    G_g107 u1191
      (fun x1195 =>
        cond (decide ((IntKind.wrap .i64 (x1195 + p1192)) > (192 : Int)))
        (
        k1200 false [0, 0, 0, 0, 0, 0] true)
        (
        G_g108 u1191 p1192
        (fun l1198 =>
        G_g64 q1190 l1198
        (fun b1199 =>
        k1200 b1199 l1198 q1193)))))
def g69 {α : Type} (m : Nat) : Bool → (List Int) → Int → Bool → (Bool → (List Int) → Bool → Option α) → Option α :=
  g69b (g107 m) (g108 m) (g64 m)
def g69tp : List TP := [(.vl (.sv (.ptr 0 0))), (.vl (.agg [(.one .bool), (.seq (.int .u32) 6)])), (.vl (.sv (.int .i64)))]
def g69bp : List BP := [(true, [(.one .bool)])]
def g69K {α : Type} (G : Bool → (List Int) → Int → Bool → (Bool → (List Int) → Bool → Option α) → Option α) (ls : List Lf) (k : TV → List (List Seg) → List (List Seg) → Option α) : Option α :=
  G (lf ls 0).bool ((lf ls 1).lst (.int .u32)) (lf ls 2).int (lf ls 3).bool
    (fun y0 y1 y2 => k (.vl (.agg [(.one (.bool y0)), (.seq (.int .u32) 6 y1)])) [[(.one (.bool y2))]] [])
def g69hd (G_g107 : {α : Type} → (List Int) → (Int → Option α) → Option α) (G_g108 : {α : Type} → (List Int) → Int → ((List Int) → Option α) → Option α) (G_g64 : {α : Type} → Bool → (List Int) → (Bool → Option α) → Option α)  : Hd where
  call := fun f args Bs k => cond (Nat.beq f 107) (rowK g107tp g107bp (g107K G_g107) args Bs k) (cond (Nat.beq f 108) (rowK g108tp g108bp (g108K G_g108) args Bs k) (cond (Nat.beq f 64) (rowK g64tp g64bp (g64K G_g64) args Bs k) (none)))
  loop := fun id st k => none
  ro := fun f => []
def g69h (m : Nat) : Hd := g69hd (g107 m) (g108 m) (g64 m)
theorem g69Main (G_g107 : {α : Type} → (List Int) → (Int → Option α) → Option α) (G_g108 : {α : Type} → (List Int) → Int → ((List Int) → Option α) → Option α) (G_g64 : {α : Type} → Bool → (List Int) → (Bool → Option α) → Option α)  {α : Type} (ls : List Lf) (k : TV → List (List Seg) → List (List Seg) → Option α) :
    g69K (g69b G_g107 G_g108 G_g64) ls k = evFun tab (g69hd G_g107 G_g108 G_g64) Go.Proofs.Try.f69 (fillT g69tp ls).1 (fillB g69bp (fillT g69tp ls).2).1 k := by kernel_rfl
theorem g69Calls (m : Nat) : (g69h m).CallsOk Go.Proofs.Try.prog := (cok_cons (g107Ok m) (cok_cons (g108Ok m) (cok_cons (g64Ok m) cok_nil)))
theorem g69Fn (m : Nat) : FnOk Go.Proofs.Try.prog 69 g69tp g69bp (fun {α} => g69K (g69 (α := α) m)) :=
  fn_ok (tab := tab) (h := g69h m) (fn := Go.Proofs.Try.f69) (F := fun {α} => g69K (g69 (α := α) m)) tabOk (g69Calls m) mixed (by kernel_rfl) (by kernel_rfl) (fun c hc => by
    rw [bodyOf_some hc]
    exact loopsOk_of _ (fun p hp => by rw [show loopsOf (bodyOf Go.Proofs.Try.f69) = [] by kernel_rfl] at hp; cases hp))
    (fun α ls k => g69Main (g107 m) (g108 m) (g64 m) ls k)
theorem g69Ok (m : Nat) : RowOk Go.Proofs.Try.prog 69 (fun {α} => rowK g69tp g69bp (g69K (g69 (α := α) m))) := row_of (g69Fn m)

/-! ### g23: impl.ShiftUp -/
def g23b {α : Type} (G_g53 : {α : Type} → Bool → (List Int) → (Bool → Option α) → Option α) (G_g68 : {α : Type} → Int → Int → Int → (Bool → Option α) → Option α) (G_g69 : {α : Type} → Bool → (List Int) → Int → Bool → (Bool → (List Int) → Bool → Option α) → Option α) (G_g56 : {α : Type} → Bool → (List Int) → Bool → (Bool → (List Int) → Int → Option α) → Option α)  (q1177 : Bool) (u1178 : List Int) (p1179 : Int) (k1207 : Bool → (List Int) → Int → Option α) : Option α :=
  G_g53 q1177 u1178
    (fun b1180 =>
      cond (!b1180)
       (
        k1207 false [0, 0, 0, 0, 0, 0] (1 : Int))
       (
        G_g68 p1179 (0 : Int) (191 : Int)
        (fun b1188 =>
        cond (!b1188)
        (
        k1207 false [0, 0, 0, 0, 0, 0] (2 : Int))
        (
        G_g69 q1177 u1178 p1179 false
        (fun b1201 l1202 b1203 =>
        G_g56 b1201 l1202 b1203
        (fun b1204 l1205 x1206 =>
        k1207 b1204 l1205 x1206))))))
def g23 {α : Type} (m : Nat) : Bool → (List Int) → Int → (Bool → (List Int) → Int → Option α) → Option α :=
  g23b (g53 m) (g68 m) (g69 m) (g56 m)
def g23tp : List TP := [(.vl (.agg [(.one .bool), (.seq (.int .u32) 6)])), (.vl (.sv (.int .i64)))]
def g23bp : List BP := []
def g23K {α : Type} (G : Bool → (List Int) → Int → (Bool → (List Int) → Int → Option α) → Option α) (ls : List Lf) (k : TV → List (List Seg) → List (List Seg) → Option α) : Option α :=
  G (lf ls 0).bool ((lf ls 1).lst (.int .u32)) (lf ls 2).int
    (fun y0 y1 y2 => k (.tup [(.agg [(.one (.bool y0)), (.seq (.int .u32) 6 y1)]), (.sv (.int .i64 y2))]) [] [])
def g23hd (G_g53 : {α : Type} → Bool → (List Int) → (Bool → Option α) → Option α) (G_g68 : {α : Type} → Int → Int → Int → (Bool → Option α) → Option α) (G_g69 : {α : Type} → Bool → (List Int) → Int → Bool → (Bool → (List Int) → Bool → Option α) → Option α) (G_g56 : {α : Type} → Bool → (List Int) → Bool → (Bool → (List Int) → Int → Option α) → Option α)  : Hd where
  call := fun f args Bs k => cond (Nat.beq f 53) (rowK g53tp g53bp (g53K G_g53) args Bs k) (cond (Nat.beq f 68) (rowK g68tp g68bp (g68K G_g68) args Bs k) (cond (Nat.beq f 69) (rowK g69tp g69bp (g69K G_g69) args Bs k) (cond (Nat.beq f 56) (rowK g56tp g56bp (g56K G_g56) args Bs k) (none))))
  loop := fun id st k => none
  ro := fun f => cond (Nat.beq f 56) [0] ([])
def g23h (m : Nat) : Hd := g23hd (g53 m) (g68 m) (g69 m) (g56 m)
theorem g23Main (G_g53 : {α : Type} → Bool → (List Int) → (Bool → Option α) → Option α) (G_g68 : {α : Type} → Int → Int → Int → (Bool → Option α) → Option α) (G_g69 : {α : Type} → Bool → (List Int) → Int → Bool → (Bool → (List Int) → Bool → Option α) → Option α) (G_g56 : {α : Type} → Bool → (List Int) → Bool → (Bool → (List Int) → Int → Option α) → Option α)  {α : Type} (ls : List Lf) (k : TV → List (List Seg) → List (List Seg) → Option α) :
    g23K (g23b G_g53 G_g68 G_g69 G_g56) ls k = evFun tab (g23hd G_g53 G_g68 G_g69 G_g56) Go.Proofs.Try.f23 (fillT g23tp ls).1 (fillB g23bp (fillT g23tp ls).2).1 k := by kernel_rfl
theorem g23Calls (m : Nat) : (g23h m).CallsOk Go.Proofs.Try.prog := (cok_cons (g53Ok m) (cok_cons (g68Ok m) (cok_cons (g69Ok m) (cok_cons (g56Ok m) cok_nil))))
theorem g23Fn (m : Nat) : FnOk Go.Proofs.Try.prog 23 g23tp g23bp (fun {α} => g23K (g23 (α := α) m)) :=
  fn_ok (tab := tab) (h := g23h m) (fn := Go.Proofs.Try.f23) (F := fun {α} => g23K (g23 (α := α) m)) tabOk (g23Calls m) mixed (by kernel_rfl) (by kernel_rfl) (fun c hc => by
    rw [bodyOf_some hc]
    exact loopsOk_of _ (fun p hp => by rw [show loopsOf (bodyOf Go.Proofs.Try.f23) = [] by kernel_rfl] at hp; cases hp))
    (fun α ls k => g23Main (g53 m) (g68 m) (g69 m) (g56 m) ls k)
theorem g23Ok (m : Nat) : RowOk Go.Proofs.Try.prog 23 (fun {α} => rowK g23tp g23bp (g23K (g23 (α := α) m))) := row_of (g23Fn m)

/-! ### g70: (*impl.calc).near -/
def g70b {α : Type} (G_g109 : {α : Type} → (List Int) → Int → ((List Int) → Option α) → Option α) (G_g98 : {α : Type} → ((List Int) → Option α) → Option α) (G_g108 : {α : Type} → (List Int) → Int → ((List Int) → Option α) → Option α) (G_g99 : {α : Type} → (List Int) → (List Int) → ((List Int) → Option α) → Option α) (G_g89 : {α : Type} → (List Int) → (List Int) → (Int → Option α) → Option α) (G_g97 : {α : Type} → (List Int) → (List Int) → ((List Int) → Bool → Option α) → Option α) (G_g64 : {α : Type} → Bool → (List Int) → (Bool → Option α) → Option α)  (q1218 : Bool) (u1219 : List Int) (p1220 : Int) (q1221 : Bool) (k1244 : Bool → (List Int) → Bool → Option α) : Option α :=
  cond (decide (p1220 > (191 : Int)))
   (
    k1244 false [0, 0, 0, 0, 0, 0] true)
   (
    G_g109 u1219 p1220
      (fun l1223 =>
        cond (p1220 == (0 : Int))
        (
        k1244 q1218 u1219 q1221)
        (
        G_g98
        (fun l1225 =>
        G_g108 l1225 (IntKind.wrap .i64 (p1220 - (1 : Int)))
        (fun l1227 =>
        G_g108 l1223 p1220
        (fun l1228 =>
        G_g99 u1219 l1228
        (fun l1229 =>
        G_g89 l1229 l1227
        (fun x1230 =>
        cond (decide (x1230 > (0 : Int)))
        (
        G_g98
        (fun l1232 =>
        G_g97 l1223 l1232
        (fun l1233 b1234 =>
        G_g64 q1218 l1233
        (fun b1235 =>
        k1244 b1235 l1233 q1221))))
        (
        cond (x1230 == (0 : Int))
        (
        cond (!q1218)
        (
        G_g98
        (fun l1238 =>
        G_g97 l1223 l1238
        (fun l1239 b1240 =>
        G_g64 q1218 l1239
        (fun b1241 =>
        k1244 b1241 l1239 q1221))))
        (
        G_g64 q1218 l1223
        (fun b1242 =>
        k1244 b1242 l1223 q1221)))
        (
        G_g64 q1218 l1223
        (fun b1243 =>
        k1244 b1243 l1223 q1221)))))))))))
def g70 {α : Type} (m : Nat) : Bool → (List Int) → Int → Bool → (Bool → (List Int) → Bool → Option α) → Option α :=
  g70b (g109 m) (g98 m) (g108 m) (g99 m) (g89 m) (g97 m) (g64 m)
def g70tp : List TP := [(.vl (.sv (.ptr 0 0))), (.vl (.agg [(.one .bool), (.seq (.int .u32) 6)])), (.vl (.sv (.int .i64)))]
def g70bp : List BP := [(true, [(.one .bool)])]
def g70K {α : Type} (G : Bool → (List Int) → Int → Bool → (Bool → (List Int) → Bool → Option α) → Option α) (ls : List Lf) (k : TV → List (List Seg) → List (List Seg) → Option α) : Option α :=
  G (lf ls 0).bool ((lf ls 1).lst (.int .u32)) (lf ls 2).int (lf ls 3).bool
    (fun y0 y1 y2 => k (.vl (.agg [(.one (.bool y0)), (.seq (.int .u32) 6 y1)])) [[(.one (.bool y2))]] [])
def g70hd (G_g109 : {α : Type} → (List Int) → Int → ((List Int) → Option α) → Option α) (G_g98 : {α : Type} → ((List Int) → Option α) → Option α) (G_g108 : {α : Type} → (List Int) → Int → ((List Int) → Option α) → Option α) (G_g99 : {α : Type} → (List Int) → (List Int) → ((List Int) → Option α) → Option α) (G_g89 : {α : Type} → (List Int) → (List Int) → (Int → Option α) → Option α) (G_g97 : {α : Type} → (List Int) → (List Int) → ((List Int) → Bool → Option α) → Option α) (G_g64 : {α : Type} → Bool → (List Int) → (Bool → Option α) → Option α)  : Hd where
  call := fun f args Bs k => cond (Nat.beq f 109) (rowK g109tp g109bp (g109K G_g109) args Bs k) (cond (Nat.beq f 98) (rowK g98tp g98bp (g98K G_g98) args Bs k) (cond (Nat.beq f 108) (rowK g108tp g108bp (g108K G_g108) args Bs k) (cond (Nat.beq f 99) (rowK g99tp g99bp (g99K G_g99) args Bs k) (cond (Nat.beq f 89) (rowK g89tp g89bp (g89K G_g89) args Bs k) (cond (Nat.beq f 97) (rowK g97tp g97bp (g97K G_g97) args Bs k) (cond (Nat.beq f 64) (rowK g64tp g64bp (g64K G_g64) args Bs k) (none)))))))
  loop := fun id st k => none
  ro := fun f => []
def g70h (m : Nat) : Hd := g70hd (g109 m) (g98 m) (g108 m) (g99 m) (g89 m) (g97 m) (g64 m)
theorem g70Main (G_g109 : {α : Type} → (List Int) → Int → ((List Int) → Option α) → Option α) (G_g98 : {α : Type} → ((List Int) → Option α) → Option α) (G_g108 : {α : Type} → (List Int) → Int → ((List Int) → Option α) → Option α) (G_g99 : {α : Type} → (List Int) → (List Int) → ((List Int) → Option α) → Option α) (G_g89 : {α : Type} → (List Int) → (List Int) → (Int → Option α) → Option α) (G_g97 : {α : Type} → (List Int) → (List Int) → ((List Int) → Bool → Option α) → Option α) (G_g64 : {α : Type} → Bool → (List Int) → (Bool → Option α) → Option α)  {α : Type} (ls : List Lf) (k : TV → List (List Seg) → List (List Seg) → Option α) :
    g70K (g70b G_g109 G_g98 G_g108 G_g99 G_g89 G_g97 G_g64) ls k = evFun tab (g70hd G_g109 G_g98 G_g108 G_g99 G_g89 G_g97 G_g64) Go.Proofs.Try.f70 (fillT g70tp ls).1 (fillB g70bp (fillT g70tp ls).2).1 k := by kernel_rfl
theorem g70Calls (m : Nat) : (g70h m).CallsOk Go.Proofs.Try.prog := (cok_cons (g109Ok m) (cok_cons (g98Ok m) (cok_cons (g108Ok m) (cok_cons (g99Ok m) (cok_cons (g89Ok m) (cok_cons (g97Ok m) (cok_cons (g64Ok m) cok_nil)))))))
theorem g70Fn (m : Nat) : FnOk Go.Proofs.Try.prog 70 g70tp g70bp (fun {α} => g70K (g70 (α := α) m)) :=
  fn_ok (tab := tab) (h := g70h m) (fn := Go.Proofs.Try.f70) (F := fun {α} => g70K (g70 (α := α) m)) tabOk (g70Calls m) mixed (by kernel_rfl) (by kernel_rfl) (fun c hc => by
    rw [bodyOf_some hc]
    exact loopsOk_of _ (fun p hp => by rw [show loopsOf (bodyOf Go.Proofs.Try.f70) = [] by kernel_rfl] at hp; cases hp))
    (fun α ls k => g70Main (g109 m) (g98 m) (g108 m) (g99 m) (g89 m) (g97 m) (g64 m) ls k)
theorem g70Ok (m : Nat) : RowOk Go.Proofs.Try.prog 70 (fun {α} => rowK g70tp g70bp (g70K (g70 (α := α) m))) := row_of (g70Fn m)

/-! ### g24: impl.ShiftNear -/
def g24b {α : Type} (G_g53 : {α : Type} → Bool → (List Int) → (Bool → Option α) → Option α) (G_g68 : {α : Type} → Int → Int → Int → (Bool → Option α) → Option α) (G_g70 : {α : Type} → Bool → (List Int) → Int → Bool → (Bool → (List Int) → Bool → Option α) → Option α) (G_g56 : {α : Type} → Bool → (List Int) → Bool → (Bool → (List Int) → Int → Option α) → Option α)  (q1211 : Bool) (u1212 : List Int) (p1213 : Int) (k1251 : Bool → (List Int) → Int → Option α) : Option α :=
  G_g53 q1211 u1212
    (fun b1214 =>
      cond (!b1214)
       (
        k1251 false [0, 0, 0, 0, 0, 0] (1 : Int))
       (
        G_g68 p1213 (0 : Int) (191 : Int)
        (fun b1216 =>
        cond (!b1216)
        (
        k1251 false [0, 0, 0, 0, 0, 0] (2 : Int))
        (
        G_g70 q1211 u1212 p1213 false
        (fun b1245 l1246 b1247 =>
        G_g56 b1245 l1246 b1247
        (fun b1248 l1249 x1250 =>
        k1251 b1248 l1249 x1250))))))
def g24 {α : Type} (m : Nat) : Bool → (List Int) → Int → (Bool → (List Int) → Int → Option α) → Option α :=
  g24b (g53 m) (g68 m) (g70 m) (g56 m)
def g24tp : List TP := [(.vl (.agg [(.one .bool), (.seq (.int .u32) 6)])), (.vl (.sv (.int .i64)))]
def g24bp : List BP := []
def g24K {α : Type} (G : Bool → (List Int) → Int → (Bool → (List Int) → Int → Option α) → Option α) (ls : List Lf) (k : TV → List (List Seg) → List (List Seg) → Option α) : Option α :=
  G (lf ls 0).bool ((lf ls 1).lst (.int .u32)) (lf ls 2).int
    (fun y0 y1 y2 => k (.tup [(.agg [(.one (.bool y0)), (.seq (.int .u32) 6 y1)]), (.sv (.int .i64 y2))]) [] [])
def g24hd (G_g53 : {α : Type} → Bool → (List Int) → (Bool → Option α) → Option α) (G_g68 : {α : Type} → Int → Int → Int → (Bool → Option α) → Option α) (G_g70 : {α : Type} → Bool → (List Int) → Int → Bool → (Bool → (List Int) → Bool → Option α) → Option α) (G_g56 : {α : Type} → Bool → (List Int) → Bool → (Bool → (List Int) → Int → Option α) → Option α)  : Hd where
  call := fun f args Bs k => cond (Nat.beq f 53) (rowK g53tp g53bp (g53K G_g53) args Bs k) (cond (Nat.beq f 68) (rowK g68tp g68bp (g68K G_g68) args Bs k) (cond (Nat.beq f 70) (rowK g70tp g70bp (g70K G_g70) args Bs k) (cond (Nat.beq f 56) (rowK g56tp g56bp (g56K G_g56) args Bs k) (none))))
  loop := fun id st k => none
  ro := fun f => cond (Nat.beq f 56) [0] ([])
def g24h (m : Nat) : Hd := g24hd (g53 m) (g68 m) (g70 m) (g56 m)
theorem g24Main (G_g53 : {α : Type} → Bool → (List Int) → (Bool → Option α) → Option α) (G_g68 : {α : Type} → Int → Int → Int → (Bool → Option α) → Option α) (G_g70 : {α : Type} → Bool → (List Int) → Int → Bool → (Bool → (List Int) → Bool → Option α) → Option α) (G_g56 : {α : Type} → Bool → (List Int) → Bool → (Bool → (List Int) → Int → Option α) → Option α)  {α : Type} (ls : List Lf) (k : TV → List (List Seg) → List (List Seg) → Option α) :
    g24K (g24b G_g53 G_g68 G_g70 G_g56) ls k = evFun tab (g24hd G_g53 G_g68 G_g70 G_g56) Go.Proofs.Try.f24 (fillT g24tp ls).1 (fillB g24bp (fillT g24tp ls).2).1 k := by kernel_rfl
theorem g24Calls (m : Nat) : (g24h m).CallsOk Go.Proofs.Try.prog := (cok_cons (g53Ok m) (cok_cons (g68Ok m) (cok_cons (g70Ok m) (cok_cons (g56Ok m) cok_nil))))
theorem g24Fn (m : Nat) : FnOk Go.Proofs.Try.prog 24 g24tp g24bp (fun {α} => g24K (g24 (α := α) m)) :=
  fn_ok (tab := tab) (h := g24h m) (fn := Go.Proofs.Try.f24) (F := fun {α} => g24K (g24 (α := α) m)) tabOk (g24Calls m) mixed (by kernel_rfl) (by kernel_rfl) (fun c hc => by
    rw [bodyOf_some hc]
    exact loopsOk_of _ (fun p hp => by rw [show loopsOf (bodyOf Go.Proofs.Try.f24) = [] by kernel_rfl] at hp; cases hp))
    (fun α ls k => g24Main (g53 m) (g68 m) (g70 m) (g56 m) ls k)
theorem g24Ok (m : Nat) : RowOk Go.Proofs.Try.prog 24 (fun {α} => rowK g24tp g24bp (g24K (g24 (α := α) m))) := row_of (g24Fn m)

/-! ### g25: impl.PowerWide -/
def g25l0b {α : Type} (G_g61 : {α : Type} → Bool → (List Int) → Bool → (List Int) → Bool → (Bool → (List Int) → Bool → Option α) → Option α)  (c1267 : Bool) (a1268 : List Int) (c1269 : Bool) (a1270 : List Int) (k1279 : Bool → Bool → (List Int) → Option α) (r1280 : Int → Bool → Bool → (List Int) → Option α) (v1266 : Int) (c1271 : Bool) (c1272 : Bool) (a1273 : List Int) : Option α :=
  cond (decide (v1266 > (0 : Int)))
   (
    G_g61 c1272 a1273 c1267 a1268 c1271
      (fun b1275 l1276 b1277 =>
        r1280 (IntKind.wrap .i64 (v1266 - (1 : Int))) b1277 b1275 l1276))
   (
    k1279 c1271 c1272 a1273)
def g25l0 {α : Type} (G_g61 : {α : Type} → Bool → (List Int) → Bool → (List Int) → Bool → (Bool → (List Int) → Bool → Option α) → Option α)  (c1267 : Bool) (a1268 : List Int) (c1269 : Bool) (a1270 : List Int) (k1279 : Bool → Bool → (List Int) → Option α) : Nat → Int → Bool → Bool → (List Int) → Option α
  | 0 => fun _ _ _ _ => none
  | m + 1 => fun v1266 c1271 c1272 a1273 => g25l0b G_g61 c1267 a1268 c1269 a1270 k1279 (g25l0 G_g61 c1267 a1268 c1269 a1270 k1279 m) v1266 c1271 c1272 a1273
def g25l0M {α : Type} (m : Nat) : Bool → (List Int) → Bool → (List Int) → (Bool → Bool → (List Int) → Option α) → Int → Bool → Bool → (List Int) → Option α :=
  fun c1267 a1268 c1269 a1270 k1279 v1266 c1271 c1272 a1273 => g25l0 (g61 m) c1267 a1268 c1269 a1270 k1279 m v1266 c1271 c1272 a1273
def g25l0D : LoopD := { n := 29, low := [], sl := [1, 2, 4, 6, 7], bl := [1000000, 1000001, 1000002, 1000003], tp := [(.vl (.sv (.int .i64))), (.vl (.sv (.ptr 1000000 0))), (.vl (.sv (.ptr 1000001 0))), (.vl (.sv (.ptr 1000002 0))), (.vl (.sv (.ptr 1000003 0)))], bp := [(true, [(.one .bool), (.seq (.int .u32) 6)]), (true, [(.one .bool), (.seq (.int .u32) 6)]), (true, [(.one .bool)]), (true, [(.one .bool), (.seq (.int .u32) 6)])], xs := [(2, [4, 6, 7])] }
def g25l0K {α : Type} (L : Bool → (List Int) → Bool → (List Int) → (Bool → Bool → (List Int) → Option α) → Int → Bool → Bool → (List Int) → Option α) (ls : List Lf) (k : Ex → St → Option α) : Option α :=
  L (lf ls 1).bool ((lf ls 2).lst (.int .u32)) (lf ls 3).bool ((lf ls 4).lst (.int .u32))
    (fun y2 y3 y4 => k .normal (mkSt 29 [4, 6, 7] [(.vl (.sv (.ptr 1000000 0))), (.vl (.sv (.ptr 1000001 0))), (.vl (.sv (.ptr 1000002 0)))] [1000000, 1000001, 1000002] [(true, [(.one (.bool (lf ls 3).bool)), (.seq (.int .u32) 6 ((lf ls 4).lst (.int .u32)))]), (true, [(.one (.bool y2))]), (true, [(.one (.bool y3)), (.seq (.int .u32) 6 y4)])]))
    (lf ls 0).int (lf ls 5).bool (lf ls 6).bool ((lf ls 7).lst (.int .u32))
def g25b {α : Type} (G_g53 : {α : Type} → Bool → (List Int) → (Bool → Option α) → Option α) (G_g68 : {α : Type} → Int → Int → Int → (Bool → Option α) → Option α) (G_g19 : {α : Type} → Int → (Bool → (List Int) → Option α) → Option α) (G_g61 : {α : Type} → Bool → (List Int) → Bool → (List Int) → Bool → (Bool → (List Int) → Bool → Option α) → Option α) (G_g56 : {α : Type} → Bool → (List Int) → Bool → (Bool → (List Int) → Int → Option α) → Option α) (L_g25l0 : {α : Type} → Bool → (List Int) → Bool → (List Int) → (Bool → Bool → (List Int) → Option α) → Int → Bool → Bool → (List Int) → Option α) (q1257 : Bool) (u1258 : List Int) (p1259 : Int) (k1287 : Bool → (List Int) → Int → Option α) : Option α :=
  G_g53 q1257 u1258
    (fun b1260 =>
      cond (!b1260)
       (
        k1287 false [0, 0, 0, 0, 0, 0] (1 : Int))
       (
        G_g68 p1259 (0 : Int) (191 : Int)
        (fun b1262 =>
        cond (!b1262)
        (
        k1287 false [0, 0, 0, 0, 0, 0] (2 : Int))
        (
        G_g19 (1 : Int)
        (fun b1264 l1265 =>
        L_g25l0 q1257 u1258 false [0, 0, 0, 0, 0, 0]
        (fun b1281 b1282 l1283 =>
        G_g56 b1282 l1283 b1281
        (fun b1284 l1285 x1286 =>
        k1287 b1284 l1285 x1286))
        p1259 false b1264 l1265)))))
def g25 {α : Type} (m : Nat) : Bool → (List Int) → Int → (Bool → (List Int) → Int → Option α) → Option α :=
  g25b (g53 m) (g68 m) (g19 m) (g61 m) (g56 m) (g25l0M m)
def g25tp : List TP := [(.vl (.agg [(.one .bool), (.seq (.int .u32) 6)])), (.vl (.sv (.int .i64)))]
def g25bp : List BP := []
def g25K {α : Type} (G : Bool → (List Int) → Int → (Bool → (List Int) → Int → Option α) → Option α) (ls : List Lf) (k : TV → List (List Seg) → List (List Seg) → Option α) : Option α :=
  G (lf ls 0).bool ((lf ls 1).lst (.int .u32)) (lf ls 2).int
    (fun y0 y1 y2 => k (.tup [(.agg [(.one (.bool y0)), (.seq (.int .u32) 6 y1)]), (.sv (.int .i64 y2))]) [] [])
def g25hd (G_g53 : {α : Type} → Bool → (List Int) → (Bool → Option α) → Option α) (G_g68 : {α : Type} → Int → Int → Int → (Bool → Option α) → Option α) (G_g19 : {α : Type} → Int → (Bool → (List Int) → Option α) → Option α) (G_g61 : {α : Type} → Bool → (List Int) → Bool → (List Int) → Bool → (Bool → (List Int) → Bool → Option α) → Option α) (G_g56 : {α : Type} → Bool → (List Int) → Bool → (Bool → (List Int) → Int → Option α) → Option α) (L_g25l0 : {α : Type} → Bool → (List Int) → Bool → (List Int) → (Bool → Bool → (List Int) → Option α) → Int → Bool → Bool → (List Int) → Option α) : Hd where
  call := fun f args Bs k => cond (Nat.beq f 53) (rowK g53tp g53bp (g53K G_g53) args Bs k) (cond (Nat.beq f 68) (rowK g68tp g68bp (g68K G_g68) args Bs k) (cond (Nat.beq f 19) (rowK g19tp g19bp (g19K G_g19) args Bs k) (cond (Nat.beq f 61) (rowK g61tp g61bp (g61K G_g61) args Bs k) (cond (Nat.beq f 56) (rowK g56tp g56bp (g56K G_g56) args Bs k) (none)))))
  loop := fun id st k => cond (Nat.beq id 0) (loopH g25l0D (g25l0K L_g25l0) st k) (none)
  ro := fun f => cond (Nat.beq f 56) [0] ([])
def g25h (m : Nat) : Hd := g25hd (g53 m) (g68 m) (g19 m) (g61 m) (g56 m) (g25l0M m)
theorem g25l0Step (G_g53 : {α : Type} → Bool → (List Int) → (Bool → Option α) → Option α) (G_g68 : {α : Type} → Int → Int → Int → (Bool → Option α) → Option α) (G_g19 : {α : Type} → Int → (Bool → (List Int) → Option α) → Option α) (G_g61 : {α : Type} → Bool → (List Int) → Bool → (List Int) → Bool → (Bool → (List Int) → Bool → Option α) → Option α) (G_g56 : {α : Type} → Bool → (List Int) → Bool → (Bool → (List Int) → Int → Option α) → Option α) (L_g25l0 : {α : Type} → Bool → (List Int) → Bool → (List Int) → (Bool → Bool → (List Int) → Option α) → Int → Bool → Bool → (List Int) → Option α) {α : Type} (L : Bool → (List Int) → Bool → (List Int) → (Bool → Bool → (List Int) → Option α) → Int → Bool → Bool → (List Int) → Option α) (ls : List Lf) (k : Ex → St → Option α) :
    g25l0K (fun c1267 a1268 c1269 a1270 k1279 v1266 c1271 c1272 a1273 => g25l0b G_g61 c1267 a1268 c1269 a1270 k1279 (L c1267 a1268 c1269 a1270 k1279) v1266 c1271 c1272 a1273) ls k = ev tab (g25hd G_g53 G_g68 G_g19 G_g61 G_g56 L_g25l0) (bodyAt Go.Proofs.Try.f25 0) (atHead g25l0D ls) (loopK g25l0D 0 (loopH g25l0D (g25l0K L)) k) := by kernel_rfl
theorem g25Main (G_g53 : {α : Type} → Bool → (List Int) → (Bool → Option α) → Option α) (G_g68 : {α : Type} → Int → Int → Int → (Bool → Option α) → Option α) (G_g19 : {α : Type} → Int → (Bool → (List Int) → Option α) → Option α) (G_g61 : {α : Type} → Bool → (List Int) → Bool → (List Int) → Bool → (Bool → (List Int) → Bool → Option α) → Option α) (G_g56 : {α : Type} → Bool → (List Int) → Bool → (Bool → (List Int) → Int → Option α) → Option α) (L_g25l0 : {α : Type} → Bool → (List Int) → Bool → (List Int) → (Bool → Bool → (List Int) → Option α) → Int → Bool → Bool → (List Int) → Option α) {α : Type} (ls : List Lf) (k : TV → List (List Seg) → List (List Seg) → Option α) :
    g25K (g25b G_g53 G_g68 G_g19 G_g61 G_g56 L_g25l0) ls k = evFun tab (g25hd G_g53 G_g68 G_g19 G_g61 G_g56 L_g25l0) Go.Proofs.Try.f25 (fillT g25tp ls).1 (fillB g25bp (fillT g25tp ls).2).1 k := by kernel_rfl
theorem g25Calls (m : Nat) : (g25h m).CallsOk Go.Proofs.Try.prog := (cok_cons (g53Ok m) (cok_cons (g68Ok m) (cok_cons (g19Ok m) (cok_cons (g61Ok m) (cok_cons (g56Ok m) cok_nil)))))
theorem g25l0Ok (m : Nat) (α : Type) (st : St) (k : Ex → St → Option α) (r : α) (h : (g25h m).loop 0 st k = some r) :
    ∃ e st', k e st' = some r ∧ CodeS Go.Proofs.Try.prog (.block 0 (.loop (bodyAt Go.Proofs.Try.f25 0))) st e st' :=
  loop_ok (tab := tab) (h := g25h m) (F := fun n ls k => g25l0K (fun c1267 a1268 c1269 a1270 k1279 v1266 c1271 c1272 a1273 => g25l0 (g61 m) c1267 a1268 c1269 a1270 k1279 n v1266 c1271 c1272 a1273) ls k) tabOk (g25Calls m) mixed (loopsOk_of _ (fun p hp => by rw [show loopsOf (bodyAt Go.Proofs.Try.f25 0) = [] by kernel_rfl] at hp; cases hp))
    (fun _ _ => rfl) (fun n ls k => g25l0Step (g53 m) (g68 m) (g19 m) (g61 m) (g56 m) (g25l0M m) (fun c1267 a1268 c1269 a1270 k1279 => g25l0 (g61 m) c1267 a1268 c1269 a1270 k1279 n) ls k) (n := m) h
theorem g25Fn (m : Nat) : FnOk Go.Proofs.Try.prog 25 g25tp g25bp (fun {α} => g25K (g25 (α := α) m)) :=
  fn_ok (tab := tab) (h := g25h m) (fn := Go.Proofs.Try.f25) (F := fun {α} => g25K (g25 (α := α) m)) tabOk (g25Calls m) mixed (by kernel_rfl) (by kernel_rfl) (fun c hc => by
    rw [bodyOf_some hc]
    exact loopsOk_of _ (fun p hp => by
    rw [show loopsOf (bodyOf Go.Proofs.Try.f25) = [(0, bodyAt Go.Proofs.Try.f25 0)] by kernel_rfl] at hp
    simp only [List.mem_cons, List.not_mem_nil, or_false] at hp
    rcases hp with rfl
    exact g25l0Ok m))
    (fun α ls k => g25Main (g53 m) (g68 m) (g19 m) (g61 m) (g56 m) (g25l0M m) ls k)
theorem g25Ok (m : Nat) : RowOk Go.Proofs.Try.prog 25 (fun {α} => rowK g25tp g25bp (g25K (g25 (α := α) m))) := row_of (g25Fn m)

/-! ### g110: spec.l01Of -/
def g110b {α : Type} (G_g52 : {α : Type} → Bool → (List Int) → (Bool → Option α) → Option α)  (p1318 : Int) (k1336 : Bool → (List Int) → Option α) : Option α :=
  let x1319 : Int := IntKind.wrap .u64 p1318
  cond (decide (p1318 < (0 : Int)))
   (
    let x1321 : Int := IntKind.wrap .u64 (0 - x1319)
    let l1326 : List Int := List.set (List.set [0, 0, 0, 0, 0, 0] 0 (IntKind.wrap .u32 x1321)) 1 (IntKind.wrap .u32 (Int.fdiv x1321 (2 ^ 32)))
    G_g52 (decide (p1318 < (0 : Int))) l1326
      (fun b1328 =>
        k1336 b1328 l1326))
   (
    let l1333 : List Int := List.set (List.set [0, 0, 0, 0, 0, 0] 0 (IntKind.wrap .u32 x1319)) 1 (IntKind.wrap .u32 (Int.fdiv x1319 (2 ^ 32)))
    G_g52 (decide (p1318 < (0 : Int))) l1333
      (fun b1335 =>
        k1336 b1335 l1333))
def g110 {α : Type} (m : Nat) : Int → (Bool → (List Int) → Option α) → Option α :=
  g110b (g52 m)
def g110tp : List TP := [(.vl (.sv (.int .i64)))]
def g110bp : List BP := []
def g110K {α : Type} (G : Int → (Bool → (List Int) → Option α) → Option α) (ls : List Lf) (k : TV → List (List Seg) → List (List Seg) → Option α) : Option α :=
  G (lf ls 0).int
    (fun y0 y1 => k (.vl (.agg [(.one (.bool y0)), (.seq (.int .u32) 6 y1)])) [] [])
def g110hd (G_g52 : {α : Type} → Bool → (List Int) → (Bool → Option α) → Option α)  : Hd where
  call := fun f args Bs k => cond (Nat.beq f 52) (rowK g52tp g52bp (g52K G_g52) args Bs k) (none)
  loop := fun id st k => none
  ro := fun f => []
def g110h (m : Nat) : Hd := g110hd (g52 m)
theorem g110Main (G_g52 : {α : Type} → Bool → (List Int) → (Bool → Option α) → Option α)  {α : Type} (ls : List Lf) (k : TV → List (List Seg) → List (List Seg) → Option α) :
    g110K (g110b G_g52) ls k = evFun tab (g110hd G_g52) Go.Proofs.Try.f110 (fillT g110tp ls).1 (fillB g110bp (fillT g110tp ls).2).1 k := by kernel_rfl
theorem g110Calls (m : Nat) : (g110h m).CallsOk Go.Proofs.Try.prog := (cok_cons (g52Ok m) cok_nil)
theorem g110Fn (m : Nat) : FnOk Go.Proofs.Try.prog 110 g110tp g110bp (fun {α} => g110K (g110 (α := α) m)) :=
  fn_ok (tab := tab) (h := g110h m) (fn := Go.Proofs.Try.f110) (F := fun {α} => g110K (g110 (α := α) m)) tabOk (g110Calls m) mixed (by kernel_rfl) (by kernel_rfl) (fun c hc => by
    rw [bodyOf_some hc]
    exact loopsOk_of _ (fun p hp => by rw [show loopsOf (bodyOf Go.Proofs.Try.f110) = [] by kernel_rfl] at hp; cases hp))
    (fun α ls k => g110Main (g52 m) ls k)
theorem g110Ok (m : Nat) : RowOk Go.Proofs.Try.prog 110 (fun {α} => rowK g110tp g110bp (g110K (g110 (α := α) m))) := row_of (g110Fn m)

/-! ### g71: spec.l01DivNear -/
def g71b {α : Type} (G_g60 : {α : Type} → Bool → (List Int) → Bool → (List Int) → (Bool → (List Int) → Bool → (List Int) → Option α) → Option α) (G_g102 : {α : Type} → (List Int) → (List Int) → ((List Int) → Option α) → Option α) (G_g105 : {α : Type} → (List Int) → (List Int) → (Int → Option α) → Option α) (G_g110 : {α : Type} → Int → (Bool → (List Int) → Option α) → Option α) (G_g65 : {α : Type} → Bool → (List Int) → Bool → (List Int) → (Bool → (List Int) → Int → Option α) → Option α)  (q1307 : Bool) (u1308 : List Int) (q1309 : Bool) (u1310 : List Int) (k1342 : Bool → (List Int) → Option α) : Option α :=
  G_g60 q1307 u1308 q1309 u1310
    (fun b1311 l1312 b1313 l1314 =>
      G_g102 u1310 l1314
        (fun l1315 =>
        G_g105 l1314 l1315
        (fun x1316 =>
        cond (decide (x1316 ≥ (0 : Int)))
        (
        G_g110 (1 : Int)
        (fun b1337 l1338 =>
        G_g65 b1311 l1312 b1337 l1338
        (fun b1339 l1340 x1341 =>
        k1342 b1339 l1340)))
        (
        k1342 b1311 l1312))))
def g71 {α : Type} (m : Nat) : Bool → (List Int) → Bool → (List Int) → (Bool → (List Int) → Option α) → Option α :=
  g71b (g60 m) (g102 m) (g105 m) (g110 m) (g65 m)
def g71tp : List TP := [(.vl (.agg [(.one .bool), (.seq (.int .u32) 6)])), (.vl (.agg [(.one .bool), (.seq (.int .u32) 6)]))]
def g71bp : List BP := []
def g71K {α : Type} (G : Bool → (List Int) → Bool → (List Int) → (Bool → (List Int) → Option α) → Option α) (ls : List Lf) (k : TV → List (List Seg) → List (List Seg) → Option α) : Option α :=
  G (lf ls 0).bool ((lf ls 1).lst (.int .u32)) (lf ls 2).bool ((lf ls 3).lst (.int .u32))
    (fun y0 y1 => k (.vl (.agg [(.one (.bool y0)), (.seq (.int .u32) 6 y1)])) [] [])
def g71hd (G_g60 : {α : Type} → Bool → (List Int) → Bool → (List Int) → (Bool → (List Int) → Bool → (List Int) → Option α) → Option α) (G_g102 : {α : Type} → (List Int) → (List Int) → ((List Int) → Option α) → Option α) (G_g105 : {α : Type} → (List Int) → (List Int) → (Int → Option α) → Option α) (G_g110 : {α : Type} → Int → (Bool → (List Int) → Option α) → Option α) (G_g65 : {α : Type} → Bool → (List Int) → Bool → (List Int) → (Bool → (List Int) → Int → Option α) → Option α)  : Hd where
  call := fun f args Bs k => cond (Nat.beq f 60) (rowK g60tp g60bp (g60K G_g60) args Bs k) (cond (Nat.beq f 102) (rowK g102tp g102bp (g102K G_g102) args Bs k) (cond (Nat.beq f 105) (rowK g105tp g105bp (g105K G_g105) args Bs k) (cond (Nat.beq f 110) (rowK g110tp g110bp (g110K G_g110) args Bs k) (cond (Nat.beq f 65) (rowK g65tp g65bp (g65K G_g65) args Bs k) (none)))))
  loop := fun id st k => none
  ro := fun f => cond (Nat.beq f 102) [0, 1] (cond (Nat.beq f 105) [0, 1] ([]))
def g71h (m : Nat) : Hd := g71hd (g60 m) (g102 m) (g105 m) (g110 m) (g65 m)
theorem g71Main (G_g60 : {α : Type} → Bool → (List Int) → Bool → (List Int) → (Bool → (List Int) → Bool → (List Int) → Option α) → Option α) (G_g102 : {α : Type} → (List Int) → (List Int) → ((List Int) → Option α) → Option α) (G_g105 : {α : Type} → (List Int) → (List Int) → (Int → Option α) → Option α) (G_g110 : {α : Type} → Int → (Bool → (List Int) → Option α) → Option α) (G_g65 : {α : Type} → Bool → (List Int) → Bool → (List Int) → (Bool → (List Int) → Int → Option α) → Option α)  {α : Type} (ls : List Lf) (k : TV → List (List Seg) → List (List Seg) → Option α) :
    g71K (g71b G_g60 G_g102 G_g105 G_g110 G_g65) ls k = evFun tab (g71hd G_g60 G_g102 G_g105 G_g110 G_g65) Go.Proofs.Try.f71 (fillT g71tp ls).1 (fillB g71bp (fillT g71tp ls).2).1 k := by kernel_rfl
theorem g71Calls (m : Nat) : (g71h m).CallsOk Go.Proofs.Try.prog := (cok_cons (g60Ok m) (cok_cons (g102Ok m) (cok_cons (g105Ok m) (cok_cons (g110Ok m) (cok_cons (g65Ok m) cok_nil)))))
theorem g71Fn (m : Nat) : FnOk Go.Proofs.Try.prog 71 g71tp g71bp (fun {α} => g71K (g71 (α := α) m)) :=
  fn_ok (tab := tab) (h := g71h m) (fn := Go.Proofs.Try.f71) (F := fun {α} => g71K (g71 (α := α) m)) tabOk (g71Calls m) mixed (by kernel_rfl) (by kernel_rfl) (fun c hc => by
    rw [bodyOf_some hc]
    exact loopsOk_of _ (fun p hp => by rw [show loopsOf (bodyOf Go.Proofs.Try.f71) = [] by kernel_rfl] at hp; cases hp))
    (fun α ls k => g71Main (g60 m) (g102 m) (g105 m) (g110 m) (g65 m) ls k)
theorem g71Ok (m : Nat) : RowOk Go.Proofs.Try.prog 71 (fun {α} => rowK g71tp g71bp (g71K (g71 (α := α) m))) := row_of (g71Fn m)

/-! ### g26: spec.DivNear -/
def g26b {α : Type} (G_g58 : {α : Type} → Bool → (List Int) → (Bool → Option α) → Option α) (G_g59 : {α : Type} → Bool → (List Int) → (Int → Option α) → Option α) (G_g71 : {α : Type} → Bool → (List Int) → Bool → (List Int) → (Bool → (List Int) → Option α) → Option α)  (q1297 : Bool) (u1298 : List Int) (q1299 : Bool) (u1300 : List Int) (k1345 : Bool → (List Int) → Int → Option α) : Option α :=
  G_g58 q1297 u1298
    (fun b1301 =>
      cond (!b1301)
       (
        k1345 false [0, 0, 0, 0, 0, 0] (1 : Int))
       (
        G_g58 q1299 u1300
        (fun b1303 =>
        cond (!b1303)
        (
        k1345 false [0, 0, 0, 0, 0, 0] (1 : Int))
        (
        G_g59 q1299 u1300
        (fun x1305 =>
        cond (x1305 == (0 : Int))
        (
        k1345 false [0, 0, 0, 0, 0, 0] (4 : Int))
        (
        G_g71 q1297 u1298 q1299 u1300
        (fun b1343 l1344 =>
        k1345 b1343 l1344 (0 : Int))))))))
def g26 {α : Type} (m : Nat) : Bool → (List Int) → Bool → (List Int) → (Bool → (List Int) → Int → Option α) → Option α :=
  g26b (g58 m) (g59 m) (g71 m)
def g26tp : List TP := [(.vl (.agg [(.one .bool), (.seq (.int .u32) 6)])), (.vl (.agg [(.one .bool), (.seq (.int .u32) 6)]))]
def g26bp : List BP := []
def g26K {α : Type} (G : Bool → (List Int) → Bool → (List Int) → (Bool → (List Int) → Int → Option α) → Option α) (ls : List Lf) (k : TV → List (List Seg) → List (List Seg) → Option α) : Option α :=
  G (lf ls 0).bool ((lf ls 1).lst (.int .u32)) (lf ls 2).bool ((lf ls 3).lst (.int .u32))
    (fun y0 y1 y2 => k (.tup [(.agg [(.one (.bool y0)), (.seq (.int .u32) 6 y1)]), (.sv (.int .i64 y2))]) [] [])
def g26hd (G_g58 : {α : Type} → Bool → (List Int) → (Bool → Option α) → Option α) (G_g59 : {α : Type} → Bool → (List Int) → (Int → Option α) → Option α) (G_g71 : {α : Type} → Bool → (List Int) → Bool → (List Int) → (Bool → (List Int) → Option α) → Option α)  : Hd where
  call := fun f args Bs k => cond (Nat.beq f 58) (rowK g58tp g58bp (g58K G_g58) args Bs k) (cond (Nat.beq f 59) (rowK g59tp g59bp (g59K G_g59) args Bs k) (cond (Nat.beq f 71) (rowK g71tp g71bp (g71K G_g71) args Bs k) (none)))
  loop := fun id st k => none
  ro := fun f => cond (Nat.beq f 58) [0] (cond (Nat.beq f 59) [0] ([]))
def g26h (m : Nat) : Hd := g26hd (g58 m) (g59 m) (g71 m)
theorem g26Main (G_g58 : {α : Type} → Bool → (List Int) → (Bool → Option α) → Option α) (G_g59 : {α : Type} → Bool → (List Int) → (Int → Option α) → Option α) (G_g71 : {α : Type} → Bool → (List Int) → Bool → (List Int) → (Bool → (List Int) → Option α) → Option α)  {α : Type} (ls : List Lf) (k : TV → List (List Seg) → List (List Seg) → Option α) :
    g26K (g26b G_g58 G_g59 G_g71) ls k = evFun tab (g26hd G_g58 G_g59 G_g71) Go.Proofs.Try.f26 (fillT g26tp ls).1 (fillB g26bp (fillT g26tp ls).2).1 k := by kernel_rfl
theorem g26Calls (m : Nat) : (g26h m).CallsOk Go.Proofs.Try.prog := (cok_cons (g58Ok m) (cok_cons (g59Ok m) (cok_cons (g71Ok m) cok_nil)))
theorem g26Fn (m : Nat) : FnOk Go.Proofs.Try.prog 26 g26tp g26bp (fun {α} => g26K (g26 (α := α) m)) :=
  fn_ok (tab := tab) (h := g26h m) (fn := Go.Proofs.Try.f26) (F := fun {α} => g26K (g26 (α := α) m)) tabOk (g26Calls m) mixed (by kernel_rfl) (by kernel_rfl) (fun c hc => by
    rw [bodyOf_some hc]
    exact loopsOk_of _ (fun p hp => by rw [show loopsOf (bodyOf Go.Proofs.Try.f26) = [] by kernel_rfl] at hp; cases hp))
    (fun α ls k => g26Main (g58 m) (g59 m) (g71 m) ls k)
theorem g26Ok (m : Nat) : RowOk Go.Proofs.Try.prog 26 (fun {α} => rowK g26tp g26bp (g26K (g26 (α := α) m))) := row_of (g26Fn m)

/-! ### g72: impl.rootOf -/
def g72l0b {α : Type} (G_g98 : {α : Type} → ((List Int) → Option α) → Option α) (G_g108 : {α : Type} → (List Int) → Int → ((List Int) → Option α) → Option α) (G_g97 : {α : Type} → (List Int) → (List Int) → ((List Int) → Bool → Option α) → Option α) (G_g103 : {α : Type} → (List Int) → (List Int) → ((List Int) → Bool → Option α) → Option α) (G_g89 : {α : Type} → (List Int) → (List Int) → (Int → Option α) → Option α)  (a1367 : List Int) (a1368 : List Int) (k1383 : (List Int) → Option α) (r1384 : Int → (List Int) → Option α) (v1366 : Int) (a1369 : List Int) : Option α :=
  cond (decide (v1366 ≥ (0 : Int)))
   (
    G_g98
      (fun l1371 =>
        G_g108 l1371 v1366
        (fun l1372 =>
        G_g97 a1369 l1372
        (fun l1373 b1374 =>
        G_g103 l1373 l1373
        (fun l1375 b1376 =>
        cond (!b1376)
        (
        G_g89 l1375 a1367
        (fun x1378 =>
        cond (decide (x1378 ≤ (0 : Int)))
        (
        r1384 (IntKind.wrap .i64 (v1366 - (1 : Int))) l1373)
        (
        r1384 (IntKind.wrap .i64 (v1366 - (1 : Int))) a1369)))
        (
        r1384 (IntKind.wrap .i64 (v1366 - (1 : Int))) a1369))))))
   (
    k1383 a1369)
def g72l0 {α : Type} (G_g98 : {α : Type} → ((List Int) → Option α) → Option α) (G_g108 : {α : Type} → (List Int) → Int → ((List Int) → Option α) → Option α) (G_g97 : {α : Type} → (List Int) → (List Int) → ((List Int) → Bool → Option α) → Option α) (G_g103 : {α : Type} → (List Int) → (List Int) → ((List Int) → Bool → Option α) → Option α) (G_g89 : {α : Type} → (List Int) → (List Int) → (Int → Option α) → Option α)  (a1367 : List Int) (a1368 : List Int) (k1383 : (List Int) → Option α) : Nat → Int → (List Int) → Option α
  | 0 => fun _ _ => none
  | m + 1 => fun v1366 a1369 => g72l0b G_g98 G_g108 G_g97 G_g103 G_g89 a1367 a1368 k1383 (g72l0 G_g98 G_g108 G_g97 G_g103 G_g89 a1367 a1368 k1383 m) v1366 a1369
def g72l0M {α : Type} (m : Nat) : (List Int) → (List Int) → ((List Int) → Option α) → Int → (List Int) → Option α :=
  fun a1367 a1368 k1383 v1366 a1369 => g72l0 (g98 m) (g108 m) (g97 m) (g103 m) (g89 m) a1367 a1368 k1383 m v1366 a1369
def g72l0D : LoopD := { n := 42, low := [], sl := [1, 2, 3, 4], bl := [1000000, 1000001, 1000002], tp := [(.vl (.sv (.ptr 1000000 0))), (.vl (.sv (.ptr 1000001 0))), (.vl (.sv (.ptr 1000002 0))), (.vl (.sv (.int .i64)))], bp := [(true, [(.seq (.int .u32) 6)]), (true, [(.seq (.int .u32) 6)]), (true, [(.seq (.int .u32) 6)])], xs := [(2, [2, 3])] }
def g72l0K {α : Type} (L : (List Int) → (List Int) → ((List Int) → Option α) → Int → (List Int) → Option α) (ls : List Lf) (k : Ex → St → Option α) : Option α :=
  L ((lf ls 1).lst (.int .u32)) ((lf ls 2).lst (.int .u32))
    (fun y1 => k .normal (mkSt 42 [2, 3] [(.vl (.sv (.ptr 1000000 0))), (.vl (.sv (.ptr 1000001 0)))] [1000000, 1000001] [(true, [(.seq (.int .u32) 6 ((lf ls 2).lst (.int .u32)))]), (true, [(.seq (.int .u32) 6 y1)])]))
    (lf ls 0).int ((lf ls 3).lst (.int .u32))
def g72b {α : Type} (G_g107 : {α : Type} → (List Int) → (Int → Option α) → Option α) (G_g98 : {α : Type} → ((List Int) → Option α) → Option α) (G_g108 : {α : Type} → (List Int) → Int → ((List Int) → Option α) → Option α) (G_g97 : {α : Type} → (List Int) → (List Int) → ((List Int) → Bool → Option α) → Option α) (G_g103 : {α : Type} → (List Int) → (List Int) → ((List Int) → Bool → Option α) → Option α) (G_g89 : {α : Type} → (List Int) → (List Int) → (Int → Option α) → Option α) (L_g72l0 : {α : Type} → (List Int) → (List Int) → ((List Int) → Option α) → Int → (List Int) → Option α) (u1362 : List Int) (k1386 : (List Int) → Option α) : Option α :=
  G_g107 u1362
    (fun x1363 =>
      L_g72l0 u1362 [0, 0, 0, 0, 0, 0]
        (fun l1385 =>
        k1386 l1385)
        (IntKind.wrap .i64 (Int.tdiv (IntKind.wrap .i64 (x1363 + (1 : Int))) (2 : Int))) [0, 0, 0, 0, 0, 0])
def g72 {α : Type} (m : Nat) : (List Int) → ((List Int) → Option α) → Option α :=
  g72b (g107 m) (g98 m) (g108 m) (g97 m) (g103 m) (g89 m) (g72l0M m)
def g72tp : List TP := [(.vl (.agg [(.seq (.int .u32) 6)]))]
def g72bp : List BP := []
def g72K {α : Type} (G : (List Int) → ((List Int) → Option α) → Option α) (ls : List Lf) (k : TV → List (List Seg) → List (List Seg) → Option α) : Option α :=
  G ((lf ls 0).lst (.int .u32))
    (fun y0 => k (.vl (.agg [(.seq (.int .u32) 6 y0)])) [] [])
def g72hd (G_g107 : {α : Type} → (List Int) → (Int → Option α) → Option α) (G_g98 : {α : Type} → ((List Int) → Option α) → Option α) (G_g108 : {α : Type} → (List Int) → Int → ((List Int) → Option α) → Option α) (G_g97 : {α : Type} → (List Int) → (List Int) → ((List Int) → Bool → Option α) → Option α) (G_g103 : {α : Type} → (List Int) → (List Int) → ((List Int) → Bool → Option α) → Option α) (G_g89 : {α : Type} → (List Int) → (List Int) → (Int → Option α) → Option α) (L_g72l0 : {α : Type} → (List Int) → (List Int) → ((List Int) → Option α) → Int → (List Int) → Option α) : Hd where
  call := fun f args Bs k => cond (Nat.beq f 107) (rowK g107tp g107bp (g107K G_g107) args Bs k) (cond (Nat.beq f 98) (rowK g98tp g98bp (g98K G_g98) args Bs k) (cond (Nat.beq f 108) (rowK g108tp g108bp (g108K G_g108) args Bs k) (cond (Nat.beq f 97) (rowK g97tp g97bp (g97K G_g97) args Bs k) (cond (Nat.beq f 103) (rowK g103tp g103bp (g103K G_g103) args Bs k) (cond (Nat.beq f 89) (rowK g89tp g89bp (g89K G_g89) args Bs k) (none))))))
  loop := fun id st k => cond (Nat.beq id 0) (loopH g72l0D (g72l0K L_g72l0) st k) (none)
  ro := fun f => []
def g72h (m : Nat) : Hd := g72hd (g107 m) (g98 m) (g108 m) (g97 m) (g103 m) (g89 m) (g72l0M m)
theorem g72l0Step (G_g107 : {α : Type} → (List Int) → (Int → Option α) → Option α) (G_g98 : {α : Type} → ((List Int) → Option α) → Option α) (G_g108 : {α : Type} → (List Int) → Int → ((List Int) → Option α) → Option α) (G_g97 : {α : Type} → (List Int) → (List Int) → ((List Int) → Bool → Option α) → Option α) (G_g103 : {α : Type} → (List Int) → (List Int) → ((List Int) → Bool → Option α) → Option α) (G_g89 : {α : Type} → (List Int) → (List Int) → (Int → Option α) → Option α) (L_g72l0 : {α : Type} → (List Int) → (List Int) → ((List Int) → Option α) → Int → (List Int) → Option α) {α : Type} (L : (List Int) → (List Int) → ((List Int) → Option α) → Int → (List Int) → Option α) (ls : List Lf) (k : Ex → St → Option α) :
    g72l0K (fun a1367 a1368 k1383 v1366 a1369 => g72l0b G_g98 G_g108 G_g97 G_g103 G_g89 a1367 a1368 k1383 (L a1367 a1368 k1383) v1366 a1369) ls k = ev tab (g72hd G_g107 G_g98 G_g108 G_g97 G_g103 G_g89 L_g72l0) (bodyAt Go.Proofs.Try.f72 0) (atHead g72l0D ls) (loopK g72l0D 0 (loopH g72l0D (g72l0K L)) k) := by kernel_rfl
theorem g72Main (G_g107 : {α : Type} → (List Int) → (Int → Option α) → Option α) (G_g98 : {α : Type} → ((List Int) → Option α) → Option α) (G_g108 : {α : Type} → (List Int) → Int → ((List Int) → Option α) → Option α) (G_g97 : {α : Type} → (List Int) → (List Int) → ((List Int) → Bool → Option α) → Option α) (G_g103 : {α : Type} → (List Int) → (List Int) → ((List Int) → Bool → Option α) → Option α) (G_g89 : {α : Type} → (List Int) → (List Int) → (Int → Option α) → Option α) (L_g72l0 : {α : Type} → (List Int) → (List Int) → ((List Int) → Option α) → Int → (List Int) → Option α) {α : Type} (ls : List Lf) (k : TV → List (List Seg) → List (List Seg) → Option α) :
    g72K (g72b G_g107 G_g98 G_g108 G_g97 G_g103 G_g89 L_g72l0) ls k = evFun tab (g72hd G_g107 G_g98 G_g108 G_g97 G_g103 G_g89 L_g72l0) Go.Proofs.Try.f72 (fillT g72tp ls).1 (fillB g72bp (fillT g72tp ls).2).1 k := by kernel_rfl
theorem g72Calls (m : Nat) : (g72h m).CallsOk Go.Proofs.Try.prog := (cok_cons (g107Ok m) (cok_cons (g98Ok m) (cok_cons (g108Ok m) (cok_cons (g97Ok m) (cok_cons (g103Ok m) (cok_cons (g89Ok m) cok_nil))))))
theorem g72l0Ok (m : Nat) (α : Type) (st : St) (k : Ex → St → Option α) (r : α) (h : (g72h m).loop 0 st k = some r) :
    ∃ e st', k e st' = some r ∧ CodeS Go.Proofs.Try.prog (.block 0 (.loop (bodyAt Go.Proofs.Try.f72 0))) st e st' :=
  loop_ok (tab := tab) (h := g72h m) (F := fun n ls k => g72l0K (fun a1367 a1368 k1383 v1366 a1369 => g72l0 (g98 m) (g108 m) (g97 m) (g103 m) (g89 m) a1367 a1368 k1383 n v1366 a1369) ls k) tabOk (g72Calls m) mixed (loopsOk_of _ (fun p hp => by rw [show loopsOf (bodyAt Go.Proofs.Try.f72 0) = [] by kernel_rfl] at hp; cases hp))
    (fun _ _ => rfl) (fun n ls k => g72l0Step (g107 m) (g98 m) (g108 m) (g97 m) (g103 m) (g89 m) (g72l0M m) (fun a1367 a1368 k1383 => g72l0 (g98 m) (g108 m) (g97 m) (g103 m) (g89 m) a1367 a1368 k1383 n) ls k) (n := m) h
theorem g72Fn (m : Nat) : FnOk Go.Proofs.Try.prog 72 g72tp g72bp (fun {α} => g72K (g72 (α := α) m)) :=
  fn_ok (tab := tab) (h := g72h m) (fn := Go.Proofs.Try.f72) (F := fun {α} => g72K (g72 (α := α) m)) tabOk (g72Calls m) mixed (by kernel_rfl) (by kernel_rfl) (fun c hc => by
    rw [bodyOf_some hc]
    exact loopsOk_of _ (fun p hp => by
    rw [show loopsOf (bodyOf Go.Proofs.Try.f72) = [(0, bodyAt Go.Proofs.Try.f72 0)] by kernel_rfl] at hp
    simp only [List.mem_cons, List.not_mem_nil, or_false] at hp
    rcases hp with rfl
    exact g72l0Ok m))
    (fun α ls k => g72Main (g107 m) (g98 m) (g108 m) (g97 m) (g103 m) (g89 m) (g72l0M m) ls k)
theorem g72Ok (m : Nat) : RowOk Go.Proofs.Try.prog 72 (fun {α} => rowK g72tp g72bp (g72K (g72 (α := α) m))) := row_of (g72Fn m)

/-! ### g27: impl.RootWide -/
def g27b {α : Type} (G_g53 : {α : Type} → Bool → (List Int) → (Bool → Option α) → Option α) (G_g72 : {α : Type} → (List Int) → ((List Int) → Option α) → Option α) (G_g64 : {α : Type} → Bool → (List Int) → (Bool → Option α) → Option α)  (q1358 : Bool) (u1359 : List Int) (k1389 : Bool → (List Int) → Int → Option α) : Option α :=
  G_g53 q1358 u1359
    (fun b1360 =>
      cond (!b1360)
       (
        k1389 false [0, 0, 0, 0, 0, 0] (1 : Int))
       (
        cond q1358
        (
        k1389 false [0, 0, 0, 0, 0, 0] (2 : Int))
        (
        G_g72 u1359
        (fun l1387 =>
        G_g64 false l1387
        (fun b1388 =>
        k1389 b1388 l1387 (0 : Int))))))
def g27 {α : Type} (m : Nat) : Bool → (List Int) → (Bool → (List Int) → Int → Option α) → Option α :=
  g27b (g53 m) (g72 m) (g64 m)
def g27tp : List TP := [(.vl (.agg [(.one .bool), (.seq (.int .u32) 6)]))]
def g27bp : List BP := []
def g27K {α : Type} (G : Bool → (List Int) → (Bool → (List Int) → Int → Option α) → Option α) (ls : List Lf) (k : TV → List (List Seg) → List (List Seg) → Option α) : Option α :=
  G (lf ls 0).bool ((lf ls 1).lst (.int .u32))
    (fun y0 y1 y2 => k (.tup [(.agg [(.one (.bool y0)), (.seq (.int .u32) 6 y1)]), (.sv (.int .i64 y2))]) [] [])
def g27hd (G_g53 : {α : Type} → Bool → (List Int) → (Bool → Option α) → Option α) (G_g72 : {α : Type} → (List Int) → ((List Int) → Option α) → Option α) (G_g64 : {α : Type} → Bool → (List Int) → (Bool → Option α) → Option α)  : Hd where
  call := fun f args Bs k => cond (Nat.beq f 53) (rowK g53tp g53bp (g53K G_g53) args Bs k) (cond (Nat.beq f 72) (rowK g72tp g72bp (g72K G_g72) args Bs k) (cond (Nat.beq f 64) (rowK g64tp g64bp (g64K G_g64) args Bs k) (none)))
  loop := fun id st k => none
  ro := fun f => []
def g27h (m : Nat) : Hd := g27hd (g53 m) (g72 m) (g64 m)
theorem g27Main (G_g53 : {α : Type} → Bool → (List Int) → (Bool → Option α) → Option α) (G_g72 : {α : Type} → (List Int) → ((List Int) → Option α) → Option α) (G_g64 : {α : Type} → Bool → (List Int) → (Bool → Option α) → Option α)  {α : Type} (ls : List Lf) (k : TV → List (List Seg) → List (List Seg) → Option α) :
    g27K (g27b G_g53 G_g72 G_g64) ls k = evFun tab (g27hd G_g53 G_g72 G_g64) Go.Proofs.Try.f27 (fillT g27tp ls).1 (fillB g27bp (fillT g27tp ls).2).1 k := by kernel_rfl
theorem g27Calls (m : Nat) : (g27h m).CallsOk Go.Proofs.Try.prog := (cok_cons (g53Ok m) (cok_cons (g72Ok m) (cok_cons (g64Ok m) cok_nil)))
theorem g27Fn (m : Nat) : FnOk Go.Proofs.Try.prog 27 g27tp g27bp (fun {α} => g27K (g27 (α := α) m)) :=
  fn_ok (tab := tab) (h := g27h m) (fn := Go.Proofs.Try.f27) (F := fun {α} => g27K (g27 (α := α) m)) tabOk (g27Calls m) mixed (by kernel_rfl) (by kernel_rfl) (fun c hc => by
    rw [bodyOf_some hc]
    exact loopsOk_of _ (fun p hp => by rw [show loopsOf (bodyOf Go.Proofs.Try.f27) = [] by kernel_rfl] at hp; cases hp))
    (fun α ls k => g27Main (g53 m) (g72 m) (g64 m) ls k)
theorem g27Ok (m : Nat) : RowOk Go.Proofs.Try.prog 27 (fun {α} => rowK g27tp g27bp (g27K (g27 (α := α) m))) := row_of (g27Fn m)

/-! ### g73: impl.compare -/
def g73b {α : Type} (G_g89 : {α : Type} → (List Int) → (List Int) → (Int → Option α) → Option α)  (q1412 : Bool) (u1413 : List Int) (q1414 : Bool) (u1415 : List Int) (k1423 : Int → Option α) : Option α :=
  cond (!(q1412 == q1414))
   (
    cond q1412
     (
      k1423 (-1 : Int))
     (
      cond (!(q1412 == q1414))
       (
        k1423 (1 : Int))
       (
        cond q1412
        (
        G_g89 u1415 u1413
        (fun x1418 =>
        k1423 x1418))
        (
        G_g89 u1413 u1415
        (fun x1419 =>
        k1423 x1419)))))
   (
    cond (!(q1412 == q1414))
     (
      k1423 (1 : Int))
     (
      cond q1412
       (
        G_g89 u1415 u1413
        (fun x1421 =>
        k1423 x1421))
       (
        G_g89 u1413 u1415
        (fun x1422 =>
        k1423 x1422))))
def g73 {α : Type} (m : Nat) : Bool → (List Int) → Bool → (List Int) → (Int → Option α) → Option α :=
  g73b (g89 m)
def g73tp : List TP := [(.vl (.agg [(.one .bool), (.seq (.int .u32) 6)])), (.vl (.agg [(.one .bool), (.seq (.int .u32) 6)]))]
def g73bp : List BP := []
def g73K {α : Type} (G : Bool → (List Int) → Bool → (List Int) → (Int → Option α) → Option α) (ls : List Lf) (k : TV → List (List Seg) → List (List Seg) → Option α) : Option α :=
  G (lf ls 0).bool ((lf ls 1).lst (.int .u32)) (lf ls 2).bool ((lf ls 3).lst (.int .u32))
    (fun y0 => k (.vl (.sv (.int .i64 y0))) [] [])
def g73hd (G_g89 : {α : Type} → (List Int) → (List Int) → (Int → Option α) → Option α)  : Hd where
  call := fun f args Bs k => cond (Nat.beq f 89) (rowK g89tp g89bp (g89K G_g89) args Bs k) (none)
  loop := fun id st k => none
  ro := fun f => []
def g73h (m : Nat) : Hd := g73hd (g89 m)
theorem g73Main (G_g89 : {α : Type} → (List Int) → (List Int) → (Int → Option α) → Option α)  {α : Type} (ls : List Lf) (k : TV → List (List Seg) → List (List Seg) → Option α) :
    g73K (g73b G_g89) ls k = evFun tab (g73hd G_g89) Go.Proofs.Try.f73 (fillT g73tp ls).1 (fillB g73bp (fillT g73tp ls).2).1 k := by kernel_rfl
theorem g73Calls (m : Nat) : (g73h m).CallsOk Go.Proofs.Try.prog := (cok_cons (g89Ok m) cok_nil)
theorem g73Fn (m : Nat) : FnOk Go.Proofs.Try.prog 73 g73tp g73bp (fun {α} => g73K (g73 (α := α) m)) :=
  fn_ok (tab := tab) (h := g73h m) (fn := Go.Proofs.Try.f73) (F := fun {α} => g73K (g73 (α := α) m)) tabOk (g73Calls m) mixed (by kernel_rfl) (by kernel_rfl) (fun c hc => by
    rw [bodyOf_some hc]
    exact loopsOk_of _ (fun p hp => by rw [show loopsOf (bodyOf Go.Proofs.Try.f73) = [] by kernel_rfl] at hp; cases hp))
    (fun α ls k => g73Main (g89 m) ls k)
theorem g73Ok (m : Nat) : RowOk Go.Proofs.Try.prog 73 (fun {α} => rowK g73tp g73bp (g73K (g73 (α := α) m))) := row_of (g73Fn m)

/-! ### g28: impl.CompareWides -/
def g28b {α : Type} (G_g53 : {α : Type} → Bool → (List Int) → (Bool → Option α) → Option α) (G_g73 : {α : Type} → Bool → (List Int) → Bool → (List Int) → (Int → Option α) → Option α)  (q1404 : Bool) (u1405 : List Int) (q1406 : Bool) (u1407 : List Int) (k1425 : Int → Int → Option α) : Option α :=
  G_g53 q1404 u1405
    (fun b1408 =>
      cond (!b1408)
       (
        k1425 (0 : Int) (1 : Int))
       (
        G_g53 q1406 u1407
        (fun b1410 =>
        cond (!b1410)
        (
        k1425 (0 : Int) (1 : Int))
        (
        G_g73 q1404 u1405 q1406 u1407
        (fun x1424 =>
        k1425 x1424 (0 : Int))))))
def g28 {α : Type} (m : Nat) : Bool → (List Int) → Bool → (List Int) → (Int → Int → Option α) → Option α :=
  g28b (g53 m) (g73 m)
def g28tp : List TP := [(.vl (.agg [(.one .bool), (.seq (.int .u32) 6)])), (.vl (.agg [(.one .bool), (.seq (.int .u32) 6)]))]
def g28bp : List BP := []
def g28K {α : Type} (G : Bool → (List Int) → Bool → (List Int) → (Int → Int → Option α) → Option α) (ls : List Lf) (k : TV → List (List Seg) → List (List Seg) → Option α) : Option α :=
  G (lf ls 0).bool ((lf ls 1).lst (.int .u32)) (lf ls 2).bool ((lf ls 3).lst (.int .u32))
    (fun y0 y1 => k (.tup [(.sv (.int .i64 y0)), (.sv (.int .i64 y1))]) [] [])
def g28hd (G_g53 : {α : Type} → Bool → (List Int) → (Bool → Option α) → Option α) (G_g73 : {α : Type} → Bool → (List Int) → Bool → (List Int) → (Int → Option α) → Option α)  : Hd where
  call := fun f args Bs k => cond (Nat.beq f 53) (rowK g53tp g53bp (g53K G_g53) args Bs k) (cond (Nat.beq f 73) (rowK g73tp g73bp (g73K G_g73) args Bs k) (none))
  loop := fun id st k => none
  ro := fun f => []
def g28h (m : Nat) : Hd := g28hd (g53 m) (g73 m)
theorem g28Main (G_g53 : {α : Type} → Bool → (List Int) → (Bool → Option α) → Option α) (G_g73 : {α : Type} → Bool → (List Int) → Bool → (List Int) → (Int → Option α) → Option α)  {α : Type} (ls : List Lf) (k : TV → List (List Seg) → List (List Seg) → Option α) :
    g28K (g28b G_g53 G_g73) ls k = evFun tab (g28hd G_g53 G_g73) Go.Proofs.Try.f28 (fillT g28tp ls).1 (fillB g28bp (fillT g28tp ls).2).1 k := by kernel_rfl
theorem g28Calls (m : Nat) : (g28h m).CallsOk Go.Proofs.Try.prog := (cok_cons (g53Ok m) (cok_cons (g73Ok m) cok_nil))
theorem g28Fn (m : Nat) : FnOk Go.Proofs.Try.prog 28 g28tp g28bp (fun {α} => g28K (g28 (α := α) m)) :=
  fn_ok (tab := tab) (h := g28h m) (fn := Go.Proofs.Try.f28) (F := fun {α} => g28K (g28 (α := α) m)) tabOk (g28Calls m) mixed (by kernel_rfl) (by kernel_rfl) (fun c hc => by
    rw [bodyOf_some hc]
    exact loopsOk_of _ (fun p hp => by rw [show loopsOf (bodyOf Go.Proofs.Try.f28) = [] by kernel_rfl] at hp; cases hp))
    (fun α ls k => g28Main (g53 m) (g73 m) ls k)
theorem g28Ok (m : Nat) : RowOk Go.Proofs.Try.prog 28 (fun {α} => rowK g28tp g28bp (g28K (g28 (α := α) m))) := row_of (g28Fn m)

/-! ### g74: impl.commonSize -/
def g74l0b {α : Type} (G_g96 : {α : Type} → (List Int) → (List Int) → ((List Int) → (List Int) → Option α) → Option α)  (a1442 : List Int) (k1446 : (List Int) → Option α) (r1447 : (List Int) → (List Int) → Option α) (a1440 : List Int) (a1441 : List Int) : Option α :=
  cond (!(eqLI a1441 [0, 0, 0, 0, 0, 0]))
   (
    G_g96 a1440 a1441
      (fun l1444 l1445 =>
        r1447 a1441 l1445))
   (
    k1446 a1440)
def g74l0 {α : Type} (G_g96 : {α : Type} → (List Int) → (List Int) → ((List Int) → (List Int) → Option α) → Option α)  (a1442 : List Int) (k1446 : (List Int) → Option α) : Nat → (List Int) → (List Int) → Option α
  | 0 => fun _ _ => none
  | m + 1 => fun a1440 a1441 => g74l0b G_g96 a1442 k1446 (g74l0 G_g96 a1442 k1446 m) a1440 a1441
def g74l0M {α : Type} (m : Nat) : (List Int) → ((List Int) → Option α) → (List Int) → (List Int) → Option α :=
  fun a1442 k1446 a1440 a1441 => g74l0 (g96 m) a1442 k1446 m a1440 a1441
def g74l0D : LoopD := { n := 19, low := [], sl := [2, 3, 4], bl := [1000000, 1000001, 1000002], tp := [(.vl (.sv (.ptr 1000000 0))), (.vl (.sv (.ptr 1000001 0))), (.vl (.sv (.ptr 1000002 0)))], bp := [(true, [(.seq (.int .u32) 6)]), (true, [(.seq (.int .u32) 6)]), (true, [(.seq (.int .u32) 6)])], xs := [(2, [2, 4])] }
def g74l0K {α : Type} (L : (List Int) → ((List Int) → Option α) → (List Int) → (List Int) → Option α) (ls : List Lf) (k : Ex → St → Option α) : Option α :=
  L ((lf ls 2).lst (.int .u32))
    (fun y0 => k .normal (mkSt 19 [2, 4] [(.vl (.sv (.ptr 1000000 0))), (.vl (.sv (.ptr 1000001 0)))] [1000000, 1000001] [(true, [(.seq (.int .u32) 6 y0)]), (true, [(.seq (.int .u32) 6 ((lf ls 2).lst (.int .u32)))])]))
    ((lf ls 0).lst (.int .u32)) ((lf ls 1).lst (.int .u32))
def g74b {α : Type} (G_g96 : {α : Type} → (List Int) → (List Int) → ((List Int) → (List Int) → Option α) → Option α) (L_g74l0 : {α : Type} → (List Int) → ((List Int) → Option α) → (List Int) → (List Int) → Option α) (u1438 : List Int) (u1439 : List Int) (k1449 : (List Int) → Option α) : Option α :=
  L_g74l0 [0, 0, 0, 0, 0, 0]
    (fun l1448 =>
      k1449 l1448)
    u1438 u1439
def g74 {α : Type} (m : Nat) : (List Int) → (List Int) → ((List Int) → Option α) → Option α :=
  g74b (g96 m) (g74l0M m)
def g74tp : List TP := [(.vl (.agg [(.seq (.int .u32) 6)])), (.vl (.agg [(.seq (.int .u32) 6)]))]
def g74bp : List BP := []
def g74K {α : Type} (G : (List Int) → (List Int) → ((List Int) → Option α) → Option α) (ls : List Lf) (k : TV → List (List Seg) → List (List Seg) → Option α) : Option α :=
  G ((lf ls 0).lst (.int .u32)) ((lf ls 1).lst (.int .u32))
    (fun y0 => k (.vl (.agg [(.seq (.int .u32) 6 y0)])) [] [])
def g74hd (G_g96 : {α : Type} → (List Int) → (List Int) → ((List Int) → (List Int) → Option α) → Option α) (L_g74l0 : {α : Type} → (List Int) → ((List Int) → Option α) → (List Int) → (List Int) → Option α) : Hd where
  call := fun f args Bs k => cond (Nat.beq f 96) (rowK g96tp g96bp (g96K G_g96) args Bs k) (none)
  loop := fun id st k => cond (Nat.beq id 0) (loopH g74l0D (g74l0K L_g74l0) st k) (none)
  ro := fun f => []
def g74h (m : Nat) : Hd := g74hd (g96 m) (g74l0M m)
theorem g74l0Step (G_g96 : {α : Type} → (List Int) → (List Int) → ((List Int) → (List Int) → Option α) → Option α) (L_g74l0 : {α : Type} → (List Int) → ((List Int) → Option α) → (List Int) → (List Int) → Option α) {α : Type} (L : (List Int) → ((List Int) → Option α) → (List Int) → (List Int) → Option α) (ls : List Lf) (k : Ex → St → Option α) :
    g74l0K (fun a1442 k1446 a1440 a1441 => g74l0b G_g96 a1442 k1446 (L a1442 k1446) a1440 a1441) ls k = ev tab (g74hd G_g96 L_g74l0) (bodyAt Go.Proofs.Try.f74 0) (atHead g74l0D ls) (loopK g74l0D 0 (loopH g74l0D (g74l0K L)) k) := by kernel_rfl
theorem g74Main (G_g96 : {α : Type} → (List Int) → (List Int) → ((List Int) → (List Int) → Option α) → Option α) (L_g74l0 : {α : Type} → (List Int) → ((List Int) → Option α) → (List Int) → (List Int) → Option α) {α : Type} (ls : List Lf) (k : TV → List (List Seg) → List (List Seg) → Option α) :
    g74K (g74b G_g96 L_g74l0) ls k = evFun tab (g74hd G_g96 L_g74l0) Go.Proofs.Try.f74 (fillT g74tp ls).1 (fillB g74bp (fillT g74tp ls).2).1 k := by kernel_rfl
theorem g74Calls (m : Nat) : (g74h m).CallsOk Go.Proofs.Try.prog := (cok_cons (g96Ok m) cok_nil)
theorem g74l0Ok (m : Nat) (α : Type) (st : St) (k : Ex → St → Option α) (r : α) (h : (g74h m).loop 0 st k = some r) :
    ∃ e st', k e st' = some r ∧ CodeS Go.Proofs.Try.prog (.block 0 (.loop (bodyAt Go.Proofs.Try.f74 0))) st e st' :=
  loop_ok (tab := tab) (h := g74h m) (F := fun n ls k => g74l0K (fun a1442 k1446 a1440 a1441 => g74l0 (g96 m) a1442 k1446 n a1440 a1441) ls k) tabOk (g74Calls m) mixed (loopsOk_of _ (fun p hp => by rw [show loopsOf (bodyAt Go.Proofs.Try.f74 0) = [] by kernel_rfl] at hp; cases hp))
    (fun _ _ => rfl) (fun n ls k => g74l0Step (g96 m) (g74l0M m) (fun a1442 k1446 => g74l0 (g96 m) a1442 k1446 n) ls k) (n := m) h
theorem g74Fn (m : Nat) : FnOk Go.Proofs.Try.prog 74 g74tp g74bp (fun {α} => g74K (g74 (α := α) m)) :=
  fn_ok (tab := tab) (h := g74h m) (fn := Go.Proofs.Try.f74) (F := fun {α} => g74K (g74 (α := α) m)) tabOk (g74Calls m) mixed (by kernel_rfl) (by kernel_rfl) (fun c hc => by
    rw [bodyOf_some hc]
    exact loopsOk_of _ (fun p hp => by
    rw [show loopsOf (bodyOf Go.Proofs.Try.f74) = [(0, bodyAt Go.Proofs.Try.f74 0)] by kernel_rfl] at hp
    simp only [List.mem_cons, List.not_mem_nil, or_false] at hp
    rcases hp with rfl
    exact g74l0Ok m))
    (fun α ls k => g74Main (g96 m) (g74l0M m) ls k)
theorem g74Ok (m : Nat) : RowOk Go.Proofs.Try.prog 74 (fun {α} => rowK g74tp g74bp (g74K (g74 (α := α) m))) := row_of (g74Fn m)

/-! ### g29: impl.CommonWide -/
def g29b {α : Type} (G_g53 : {α : Type} → Bool → (List Int) → (Bool → Option α) → Option α) (G_g74 : {α : Type} → (List Int) → (List Int) → ((List Int) → Option α) → Option α) (G_g64 : {α : Type} → Bool → (List Int) → (Bool → Option α) → Option α)  (q1430 : Bool) (u1431 : List Int) (q1432 : Bool) (u1433 : List Int) (k1452 : Bool → (List Int) → Int → Option α) : Option α :=
  G_g53 q1430 u1431
    (fun b1434 =>
      cond (!b1434)
       (
        k1452 false [0, 0, 0, 0, 0, 0] (1 : Int))
       (
        G_g53 q1432 u1433
        (fun b1436 =>
        cond (!b1436)
        (
        k1452 false [0, 0, 0, 0, 0, 0] (1 : Int))
        (
        G_g74 u1431 u1433
        (fun l1450 =>
        G_g64 false l1450
        (fun b1451 =>
        k1452 b1451 l1450 (0 : Int)))))))
def g29 {α : Type} (m : Nat) : Bool → (List Int) → Bool → (List Int) → (Bool → (List Int) → Int → Option α) → Option α :=
  g29b (g53 m) (g74 m) (g64 m)
def g29tp : List TP := [(.vl (.agg [(.one .bool), (.seq (.int .u32) 6)])), (.vl (.agg [(.one .bool), (.seq (.int .u32) 6)]))]
def g29bp : List BP := []
def g29K {α : Type} (G : Bool → (List Int) → Bool → (List Int) → (Bool → (List Int) → Int → Option α) → Option α) (ls : List Lf) (k : TV → List (List Seg) → List (List Seg) → Option α) : Option α :=
  G (lf ls 0).bool ((lf ls 1).lst (.int .u32)) (lf ls 2).bool ((lf ls 3).lst (.int .u32))
    (fun y0 y1 y2 => k (.tup [(.agg [(.one (.bool y0)), (.seq (.int .u32) 6 y1)]), (.sv (.int .i64 y2))]) [] [])
def g29hd (G_g53 : {α : Type} → Bool → (List Int) → (Bool → Option α) → Option α) (G_g74 : {α : Type} → (List Int) → (List Int) → ((List Int) → Option α) → Option α) (G_g64 : {α : Type} → Bool → (List Int) → (Bool → Option α) → Option α)  : Hd where
  call := fun f args Bs k => cond (Nat.beq f 53) (rowK g53tp g53bp (g53K G_g53) args Bs k) (cond (Nat.beq f 74) (rowK g74tp g74bp (g74K G_g74) args Bs k) (cond (Nat.beq f 64) (rowK g64tp g64bp (g64K G_g64) args Bs k) (none)))
  loop := fun id st k => none
  ro := fun f => []
def g29h (m : Nat) : Hd := g29hd (g53 m) (g74 m) (g64 m)
theorem g29Main (G_g53 : {α : Type} → Bool → (List Int) → (Bool → Option α) → Option α) (G_g74 : {α : Type} → (List Int) → (List Int) → ((List Int) → Option α) → Option α) (G_g64 : {α : Type} → Bool → (List Int) → (Bool → Option α) → Option α)  {α : Type} (ls : List Lf) (k : TV → List (List Seg) → List (List Seg) → Option α) :
    g29K (g29b G_g53 G_g74 G_g64) ls k = evFun tab (g29hd G_g53 G_g74 G_g64) Go.Proofs.Try.f29 (fillT g29tp ls).1 (fillB g29bp (fillT g29tp ls).2).1 k := by kernel_rfl
theorem g29Calls (m : Nat) : (g29h m).CallsOk Go.Proofs.Try.prog := (cok_cons (g53Ok m) (cok_cons (g74Ok m) (cok_cons (g64Ok m) cok_nil)))
theorem g29Fn (m : Nat) : FnOk Go.Proofs.Try.prog 29 g29tp g29bp (fun {α} => g29K (g29 (α := α) m)) :=
  fn_ok (tab := tab) (h := g29h m) (fn := Go.Proofs.Try.f29) (F := fun {α} => g29K (g29 (α := α) m)) tabOk (g29Calls m) mixed (by kernel_rfl) (by kernel_rfl) (fun c hc => by
    rw [bodyOf_some hc]
    exact loopsOk_of _ (fun p hp => by rw [show loopsOf (bodyOf Go.Proofs.Try.f29) = [] by kernel_rfl] at hp; cases hp))
    (fun α ls k => g29Main (g53 m) (g74 m) (g64 m) ls k)
theorem g29Ok (m : Nat) : RowOk Go.Proofs.Try.prog 29 (fun {α} => rowK g29tp g29bp (g29K (g29 (α := α) m))) := row_of (g29Fn m)
end Go.Proofs.Ytlmmgjngihlpeaa.Sx
