/- Functions. Printed by our own sx.py. -/
import Derived.Test.YtbpljilgekneoaaSxV0
namespace Go.Proofs.Ytbpljilgekneoaa.Sx
open Go
set_option linter.unusedVariables false
set_option maxRecDepth 100000
/-! ### g49: laws.heldStream -/
def g49b {α : Type} (G_g56 : {α : Type} → Int → (Option α) → Option α)  (p805 : Int) (k815 : Int → Option α) : Option α :=
  G_g56 p805
    (
      cond (decide (p805 < (0 : Int)))
       (
        k815 (-1 : Int))
       (
        G_g56 p805
          (
            cond (decide (p805 < (0 : Int)))
             (
              k815 (-1 : Int))
             (
              k815 p805))))
def g49 {α : Type} (m : Nat) : Int → (Int → Option α) → Option α :=
  g49b (g56 m)
def g49tp : List TP := [(.vl (.agg [(.one .nils), (.one .nils)])), (.vl (.sv (.int .i64)))]
def g49bp : List BP := []
def g49K {α : Type} (G : Int → (Int → Option α) → Option α) (ls : List Lf) (k : TV → List (List Seg) → List (List Seg) → Option α) : Option α :=
  G (lf ls 0).int
    (fun y0 => k (.vl (.sv (.int .i64 y0))) [] [])
def g49hd (G_g56 : {α : Type} → Int → (Option α) → Option α)  : Hd where
  call := fun f args Bs k => cond (Nat.beq f 56) (rowK g56tp g56bp (g56K G_g56) args Bs k) (none)
  loop := fun id st k => none
  ro := fun f => []
def g49h (m : Nat) : Hd := g49hd (g56 m)
theorem g49Main (G_g56 : {α : Type} → Int → (Option α) → Option α)  {α : Type} (ls : List Lf) (k : TV → List (List Seg) → List (List Seg) → Option α) :
    g49K (g49b G_g56) ls k = evFun tab (g49hd G_g56) Go.Proofs.Try.f49 (fillT g49tp ls).1 (fillB g49bp (fillT g49tp ls).2).1 k := by kernel_rfl
theorem g49Calls (m : Nat) : (g49h m).CallsOk Go.Proofs.Try.prog := (cok_cons (g56Ok m) cok_nil)
theorem g49Fn (m : Nat) : FnOk Go.Proofs.Try.prog 49 g49tp g49bp (fun {α} => g49K (g49 (α := α) m)) :=
  fn_ok (tab := tab) (h := g49h m) (fn := Go.Proofs.Try.f49) (F := fun {α} => g49K (g49 (α := α) m)) tabOk (g49Calls m) mixed (by kernel_rfl) (by kernel_rfl) (fun c hc => by
    rw [bodyOf_some hc]
    exact loopsOk_of _ (fun p hp => by rw [show loopsOf (bodyOf Go.Proofs.Try.f49) = [] by kernel_rfl] at hp; cases hp))
    (fun α ls k => g49Main (g56 m) ls k)
theorem g49Ok (m : Nat) : RowOk Go.Proofs.Try.prog 49 (fun {α} => rowK g49tp g49bp (g49K (g49 (α := α) m))) := row_of (g49Fn m)

/-! ### g54v2: laws.eqInt8S -/
def g54v2l0b {α : Type}   (m842 : Nat) (m843 : Nat) (m844 : Nat) (v845 : Int) (m846 : Nat) (a847 : List Int) (k850 : Option α) (r851 : Option α)  : Option α :=
  cond (decide (v845 < ((m843 : Nat) : Int)))
   (
    if 0 ≤ v845 ∧ v845 < (m843 : Nat) then
      if (m842 + v845.toNat) < m846 then
        none
      else
        none
    else
      none)
   (
    k850)
def g54v2l0 {α : Type}   (m842 : Nat) (m843 : Nat) (m844 : Nat) (v845 : Int) (m846 : Nat) (a847 : List Int) (k850 : Option α) : Nat → Option α
  | 0 => none
  | m + 1 => g54v2l0b m842 m843 m844 v845 m846 a847 k850 (g54v2l0 m842 m843 m844 v845 m846 a847 k850 m)
def g54v2l0M {α : Type} (m : Nat) : Nat → Nat → Nat → Int → Nat → (List Int) → (Option α) → Option α :=
  fun m842 m843 m844 v845 m846 a847 k850  => g54v2l0 m842 m843 m844 v845 m846 a847 k850 m 
def g54v2l0D : LoopD := { n := 26, low := [0], sl := [0, 1, 5], bl := [0], tp := [(.vl (.sv (.slc 0 0 1))), (.vl (.sv .nils)), (.vl (.sv (.int .i64)))], bp := [(false, [(.seqv (.int .i8))])], xs := [(2, [])] }
def g54v2l0K {α : Type} (L : Nat → Nat → Nat → Int → Nat → (List Int) → (Option α) → Option α) (ls : List Lf) (k : Ex → St → Option α) : Option α :=
  L (lf ls 0).nat (lf ls 1).nat (lf ls 2).nat (lf ls 3).int (lf ls 4).nat ((lf ls 5).lst (.int .i8))
    (k .normal (mkSt 26 [] [] [0] [(false, [(.seq (.int .i8) (lf ls 4).nat ((lf ls 5).lst (.int .i8)))])]))
    
def g54v2b {α : Type}  (L_g54v2l0 : {α : Type} → Nat → Nat → Nat → Int → Nat → (List Int) → (Option α) → Option α) (m836 : Nat) (m837 : Nat) (m838 : Nat) (m839 : Nat) (u840 : List Int) (k852 : Bool → Option α) : Option α :=
  cond (((m837 : Nat) : Int) != (0 : Int))
   (
    k852 false)
   (
    L_g54v2l0 m836 m837 m838 (0 : Int) m839 u840
      (
        k852 true))
def g54v2 {α : Type} (m : Nat) : Nat → Nat → Nat → Nat → (List Int) → (Bool → Option α) → Option α :=
  g54v2b (g54v2l0M m)
def g54v2tp : List TP := [(.vl (.sv (.slc 0 0 1))), (.vl (.sv .nils))]
def g54v2bp : List BP := [(false, [(.seqv (.int .i8))])]
def g54v2K {α : Type} (G : Nat → Nat → Nat → Nat → (List Int) → (Bool → Option α) → Option α) (ls : List Lf) (k : TV → List (List Seg) → List (List Seg) → Option α) : Option α :=
  G (lf ls 0).nat (lf ls 1).nat (lf ls 2).nat (lf ls 3).nat ((lf ls 4).lst (.int .i8))
    (fun y0 => k (.vl (.sv (.bool y0))) [[(.seq (.int .i8) (lf ls 3).nat ((lf ls 4).lst (.int .i8)))]] [])
def g54v2hd  (L_g54v2l0 : {α : Type} → Nat → Nat → Nat → Int → Nat → (List Int) → (Option α) → Option α) : Hd where
  call := fun f args Bs k => none
  loop := fun id st k => cond (Nat.beq id 0) (loopH g54v2l0D (g54v2l0K L_g54v2l0) st k) (none)
  ro := fun f => []
def g54v2h (m : Nat) : Hd := g54v2hd (g54v2l0M m)
theorem g54v2l0Step  (L_g54v2l0 : {α : Type} → Nat → Nat → Nat → Int → Nat → (List Int) → (Option α) → Option α) {α : Type} (L : Nat → Nat → Nat → Int → Nat → (List Int) → (Option α) → Option α) (ls : List Lf) (k : Ex → St → Option α) :
    g54v2l0K (fun m842 m843 m844 v845 m846 a847 k850 => g54v2l0b m842 m843 m844 v845 m846 a847 k850 (L m842 m843 m844 v845 m846 a847 k850) ) ls k = ev tab (g54v2hd L_g54v2l0) (bodyAt Go.Proofs.Try.f54 0) (atHead g54v2l0D ls) (loopK g54v2l0D 0 (loopH g54v2l0D (g54v2l0K L)) k) := by kernel_rfl
theorem g54v2Main  (L_g54v2l0 : {α : Type} → Nat → Nat → Nat → Int → Nat → (List Int) → (Option α) → Option α) {α : Type} (ls : List Lf) (k : TV → List (List Seg) → List (List Seg) → Option α) :
    g54v2K (g54v2b L_g54v2l0) ls k = evFun tab (g54v2hd L_g54v2l0) Go.Proofs.Try.f54 (fillT g54v2tp ls).1 (fillB g54v2bp (fillT g54v2tp ls).2).1 k := by kernel_rfl
theorem g54v2Calls (m : Nat) : (g54v2h m).CallsOk Go.Proofs.Try.prog := cok_nil
theorem g54v2l0Ok (m : Nat) (α : Type) (st : St) (k : Ex → St → Option α) (r : α) (h : (g54v2h m).loop 0 st k = some r) :
    ∃ e st', k e st' = some r ∧ CodeS Go.Proofs.Try.prog (.block 0 (.loop (bodyAt Go.Proofs.Try.f54 0))) st e st' :=
  loop_ok (tab := tab) (h := g54v2h m) (F := fun n ls k => g54v2l0K (fun m842 m843 m844 v845 m846 a847 k850 => g54v2l0 m842 m843 m844 v845 m846 a847 k850 n ) ls k) tabOk (g54v2Calls m) mixed (loopsOk_of _ (fun p hp => by rw [show loopsOf (bodyAt Go.Proofs.Try.f54 0) = [] by kernel_rfl] at hp; cases hp))
    (fun _ _ => rfl) (fun n ls k => g54v2l0Step (g54v2l0M m) (fun m842 m843 m844 v845 m846 a847 k850 => g54v2l0 m842 m843 m844 v845 m846 a847 k850 n) ls k) (n := m) h
theorem g54v2Fn (m : Nat) : FnOk Go.Proofs.Try.prog 54 g54v2tp g54v2bp (fun {α} => g54v2K (g54v2 (α := α) m)) :=
  fn_ok (tab := tab) (h := g54v2h m) (fn := Go.Proofs.Try.f54) (F := fun {α} => g54v2K (g54v2 (α := α) m)) tabOk (g54v2Calls m) mixed (by kernel_rfl) (by kernel_rfl) (fun c hc => by
    rw [bodyOf_some hc]
    exact loopsOk_of _ (fun p hp => by
    rw [show loopsOf (bodyOf Go.Proofs.Try.f54) = [(0, bodyAt Go.Proofs.Try.f54 0)] by kernel_rfl] at hp
    simp only [List.mem_cons, List.not_mem_nil, or_false] at hp
    rcases hp with rfl
    exact g54v2l0Ok m))
    (fun α ls k => g54v2Main (g54v2l0M m) ls k)
theorem g54v2Ok (m : Nat) : RowOk Go.Proofs.Try.prog 54 (fun {α} => rowK g54v2tp g54v2bp (g54v2K (g54v2 (α := α) m))) := row_of (g54v2Fn m)

/-! ### g39v2: laws.eqStream -/
def g39v2b {α : Type} (G_g54v2 : {α : Type} → Nat → Nat → Nat → Nat → (List Int) → (Bool → Option α) → Option α)  (m826 : Nat) (m827 : Nat) (m828 : Nat) (m829 : Nat) (m830 : Nat) (m831 : Nat) (m832 : Nat) (u833 : List Int) (m834 : Nat) (u835 : List Int) (k857 : Bool → Option α) : Option α :=
  G_g54v2 m826 m827 m828 m832 u833
    (fun b853 =>
      cond (!b853)
       (
        k857 false)
       (
        G_g54v2 m829 m830 m831 m834 u835
          (fun b855 =>
            cond (!b855)
             (
              k857 false)
             (
              k857 true))))
def g39v2 {α : Type} (m : Nat) : Nat → Nat → Nat → Nat → Nat → Nat → Nat → (List Int) → Nat → (List Int) → (Bool → Option α) → Option α :=
  g39v2b (g54v2 m)
def g39v2tp : List TP := [(.vl (.agg [(.one (.slc 0 0 1)), (.one (.slc 1 0 1))])), (.vl (.agg [(.one .nils), (.one .nils)]))]
def g39v2bp : List BP := [(false, [(.seqv (.int .i8))]), (false, [(.seqv (.int .i8))])]
def g39v2K {α : Type} (G : Nat → Nat → Nat → Nat → Nat → Nat → Nat → (List Int) → Nat → (List Int) → (Bool → Option α) → Option α) (ls : List Lf) (k : TV → List (List Seg) → List (List Seg) → Option α) : Option α :=
  G (lf ls 0).nat (lf ls 1).nat (lf ls 2).nat (lf ls 3).nat (lf ls 4).nat (lf ls 5).nat (lf ls 6).nat ((lf ls 7).lst (.int .i8)) (lf ls 8).nat ((lf ls 9).lst (.int .i8))
    (fun y0 => k (.vl (.sv (.bool y0))) [[(.seq (.int .i8) (lf ls 6).nat ((lf ls 7).lst (.int .i8)))], [(.seq (.int .i8) (lf ls 8).nat ((lf ls 9).lst (.int .i8)))]] [])
def g39v2hd (G_g54v2 : {α : Type} → Nat → Nat → Nat → Nat → (List Int) → (Bool → Option α) → Option α)  : Hd where
  call := fun f args Bs k => cond (Nat.beq f 54) (rowK g54v2tp g54v2bp (g54v2K G_g54v2) args Bs k) (none)
  loop := fun id st k => none
  ro := fun f => cond (Nat.beq f 54) [0] ([])
def g39v2h (m : Nat) : Hd := g39v2hd (g54v2 m)
theorem g39v2Main (G_g54v2 : {α : Type} → Nat → Nat → Nat → Nat → (List Int) → (Bool → Option α) → Option α)  {α : Type} (ls : List Lf) (k : TV → List (List Seg) → List (List Seg) → Option α) :
    g39v2K (g39v2b G_g54v2) ls k = evFun tab (g39v2hd G_g54v2) Go.Proofs.Try.f39 (fillT g39v2tp ls).1 (fillB g39v2bp (fillT g39v2tp ls).2).1 k := by kernel_rfl
theorem g39v2Calls (m : Nat) : (g39v2h m).CallsOk Go.Proofs.Try.prog := (cok_cons (g54v2Ok m) cok_nil)
theorem g39v2Fn (m : Nat) : FnOk Go.Proofs.Try.prog 39 g39v2tp g39v2bp (fun {α} => g39v2K (g39v2 (α := α) m)) :=
  fn_ok (tab := tab) (h := g39v2h m) (fn := Go.Proofs.Try.f39) (F := fun {α} => g39v2K (g39v2 (α := α) m)) tabOk (g39v2Calls m) mixed (by kernel_rfl) (by kernel_rfl) (fun c hc => by
    rw [bodyOf_some hc]
    exact loopsOk_of _ (fun p hp => by rw [show loopsOf (bodyOf Go.Proofs.Try.f39) = [] by kernel_rfl] at hp; cases hp))
    (fun α ls k => g39v2Main (g54v2 m) ls k)
theorem g39v2Ok (m : Nat) : RowOk Go.Proofs.Try.prog 39 (fun {α} => rowK g39v2tp g39v2bp (g39v2K (g39v2 (α := α) m))) := row_of (g39v2Fn m)

/-! ### g54v3: laws.eqInt8S -/
def g54v3l0b {α : Type}   (v872 : Int) (a873 : List Int) (k875 : Option α) (r876 : Option α)  : Option α :=
  cond (decide (v872 < (0 : Int)))
   (
    none)
   (
    k875)
def g54v3l0 {α : Type}   (v872 : Int) (a873 : List Int) (k875 : Option α) : Nat → Option α
  | 0 => none
  | m + 1 => g54v3l0b v872 a873 k875 (g54v3l0 v872 a873 k875 m)
def g54v3l0M {α : Type} (m : Nat) : Int → (List Int) → (Option α) → Option α :=
  fun v872 a873 k875  => g54v3l0 v872 a873 k875 m 
def g54v3l0D : LoopD := { n := 26, low := [0], sl := [0, 1, 5], bl := [0], tp := [(.vl (.sv .nils)), (.vl (.sv (.gsl 0 1))), (.vl (.sv (.int .i64)))], bp := [(false, [(.gro (.int .i8))])], xs := [(2, [])] }
def g54v3l0K {α : Type} (L : Int → (List Int) → (Option α) → Option α) (ls : List Lf) (k : Ex → St → Option α) : Option α :=
  L (lf ls 0).int ((lf ls 1).lst (.int .i8))
    (k .normal (mkSt 26 [] [] [0] [(false, [(.gro (.int .i8) ((lf ls 1).lst (.int .i8)))])]))
    
def g54v3b {α : Type}  (L_g54v3l0 : {α : Type} → Int → (List Int) → (Option α) → Option α) (u870 : List Int) (k877 : Bool → Option α) : Option α :=
  cond ((0 : Int) != ((u870.length : Nat) : Int))
   (
    k877 false)
   (
    L_g54v3l0 (0 : Int) u870
      (
        k877 true))
def g54v3 {α : Type} (m : Nat) : (List Int) → (Bool → Option α) → Option α :=
  g54v3b (g54v3l0M m)
def g54v3tp : List TP := [(.vl (.sv .nils)), (.vl (.sv (.gsl 0 1)))]
def g54v3bp : List BP := [(false, [(.gro (.int .i8))])]
def g54v3K {α : Type} (G : (List Int) → (Bool → Option α) → Option α) (ls : List Lf) (k : TV → List (List Seg) → List (List Seg) → Option α) : Option α :=
  G ((lf ls 0).lst (.int .i8))
    (fun y0 => k (.vl (.sv (.bool y0))) [[(.gro (.int .i8) ((lf ls 0).lst (.int .i8)))]] [])
def g54v3hd  (L_g54v3l0 : {α : Type} → Int → (List Int) → (Option α) → Option α) : Hd where
  call := fun f args Bs k => none
  loop := fun id st k => cond (Nat.beq id 0) (loopH g54v3l0D (g54v3l0K L_g54v3l0) st k) (none)
  ro := fun f => []
def g54v3h (m : Nat) : Hd := g54v3hd (g54v3l0M m)
theorem g54v3l0Step  (L_g54v3l0 : {α : Type} → Int → (List Int) → (Option α) → Option α) {α : Type} (L : Int → (List Int) → (Option α) → Option α) (ls : List Lf) (k : Ex → St → Option α) :
    g54v3l0K (fun v872 a873 k875 => g54v3l0b v872 a873 k875 (L v872 a873 k875) ) ls k = ev tab (g54v3hd L_g54v3l0) (bodyAt Go.Proofs.Try.f54 0) (atHead g54v3l0D ls) (loopK g54v3l0D 0 (loopH g54v3l0D (g54v3l0K L)) k) := by kernel_rfl
theorem g54v3Main  (L_g54v3l0 : {α : Type} → Int → (List Int) → (Option α) → Option α) {α : Type} (ls : List Lf) (k : TV → List (List Seg) → List (List Seg) → Option α) :
    g54v3K (g54v3b L_g54v3l0) ls k = evFun tab (g54v3hd L_g54v3l0) Go.Proofs.Try.f54 (fillT g54v3tp ls).1 (fillB g54v3bp (fillT g54v3tp ls).2).1 k := by kernel_rfl
theorem g54v3Calls (m : Nat) : (g54v3h m).CallsOk Go.Proofs.Try.prog := cok_nil
theorem g54v3l0Ok (m : Nat) (α : Type) (st : St) (k : Ex → St → Option α) (r : α) (h : (g54v3h m).loop 0 st k = some r) :
    ∃ e st', k e st' = some r ∧ CodeS Go.Proofs.Try.prog (.block 0 (.loop (bodyAt Go.Proofs.Try.f54 0))) st e st' :=
  loop_ok (tab := tab) (h := g54v3h m) (F := fun n ls k => g54v3l0K (fun v872 a873 k875 => g54v3l0 v872 a873 k875 n ) ls k) tabOk (g54v3Calls m) mixed (loopsOk_of _ (fun p hp => by rw [show loopsOf (bodyAt Go.Proofs.Try.f54 0) = [] by kernel_rfl] at hp; cases hp))
    (fun _ _ => rfl) (fun n ls k => g54v3l0Step (g54v3l0M m) (fun v872 a873 k875 => g54v3l0 v872 a873 k875 n) ls k) (n := m) h
theorem g54v3Fn (m : Nat) : FnOk Go.Proofs.Try.prog 54 g54v3tp g54v3bp (fun {α} => g54v3K (g54v3 (α := α) m)) :=
  fn_ok (tab := tab) (h := g54v3h m) (fn := Go.Proofs.Try.f54) (F := fun {α} => g54v3K (g54v3 (α := α) m)) tabOk (g54v3Calls m) mixed (by kernel_rfl) (by kernel_rfl) (fun c hc => by
    rw [bodyOf_some hc]
    exact loopsOk_of _ (fun p hp => by
    rw [show loopsOf (bodyOf Go.Proofs.Try.f54) = [(0, bodyAt Go.Proofs.Try.f54 0)] by kernel_rfl] at hp
    simp only [List.mem_cons, List.not_mem_nil, or_false] at hp
    rcases hp with rfl
    exact g54v3l0Ok m))
    (fun α ls k => g54v3Main (g54v3l0M m) ls k)
theorem g54v3Ok (m : Nat) : RowOk Go.Proofs.Try.prog 54 (fun {α} => rowK g54v3tp g54v3bp (g54v3K (g54v3 (α := α) m))) := row_of (g54v3Fn m)

/-! ### g39v3: laws.eqStream -/
def g39v3b {α : Type} (G_g54v3 : {α : Type} → (List Int) → (Bool → Option α) → Option α)  (u868 : List Int) (u869 : List Int) (k882 : Bool → Option α) : Option α :=
  G_g54v3 u868
    (fun b878 =>
      cond (!b878)
       (
        k882 false)
       (
        G_g54v3 u869
          (fun b880 =>
            cond (!b880)
             (
              k882 false)
             (
              k882 true))))
def g39v3 {α : Type} (m : Nat) : (List Int) → (List Int) → (Bool → Option α) → Option α :=
  g39v3b (g54v3 m)
def g39v3tp : List TP := [(.vl (.agg [(.one .nils), (.one .nils)])), (.vl (.agg [(.one (.gsl 0 1)), (.one (.gsl 1 1))]))]
def g39v3bp : List BP := [(false, [(.gro (.int .i8))]), (false, [(.gro (.int .i8))])]
def g39v3K {α : Type} (G : (List Int) → (List Int) → (Bool → Option α) → Option α) (ls : List Lf) (k : TV → List (List Seg) → List (List Seg) → Option α) : Option α :=
  G ((lf ls 0).lst (.int .i8)) ((lf ls 1).lst (.int .i8))
    (fun y0 => k (.vl (.sv (.bool y0))) [[(.gro (.int .i8) ((lf ls 0).lst (.int .i8)))], [(.gro (.int .i8) ((lf ls 1).lst (.int .i8)))]] [])
def g39v3hd (G_g54v3 : {α : Type} → (List Int) → (Bool → Option α) → Option α)  : Hd where
  call := fun f args Bs k => cond (Nat.beq f 54) (rowK g54v3tp g54v3bp (g54v3K G_g54v3) args Bs k) (none)
  loop := fun id st k => none
  ro := fun f => cond (Nat.beq f 54) [0] ([])
def g39v3h (m : Nat) : Hd := g39v3hd (g54v3 m)
theorem g39v3Main (G_g54v3 : {α : Type} → (List Int) → (Bool → Option α) → Option α)  {α : Type} (ls : List Lf) (k : TV → List (List Seg) → List (List Seg) → Option α) :
    g39v3K (g39v3b G_g54v3) ls k = evFun tab (g39v3hd G_g54v3) Go.Proofs.Try.f39 (fillT g39v3tp ls).1 (fillB g39v3bp (fillT g39v3tp ls).2).1 k := by kernel_rfl
theorem g39v3Calls (m : Nat) : (g39v3h m).CallsOk Go.Proofs.Try.prog := (cok_cons (g54v3Ok m) cok_nil)
theorem g39v3Fn (m : Nat) : FnOk Go.Proofs.Try.prog 39 g39v3tp g39v3bp (fun {α} => g39v3K (g39v3 (α := α) m)) :=
  fn_ok (tab := tab) (h := g39v3h m) (fn := Go.Proofs.Try.f39) (F := fun {α} => g39v3K (g39v3 (α := α) m)) tabOk (g39v3Calls m) mixed (by kernel_rfl) (by kernel_rfl) (fun c hc => by
    rw [bodyOf_some hc]
    exact loopsOk_of _ (fun p hp => by rw [show loopsOf (bodyOf Go.Proofs.Try.f39) = [] by kernel_rfl] at hp; cases hp))
    (fun α ls k => g39v3Main (g54v3 m) ls k)
theorem g39v3Ok (m : Nat) : RowOk Go.Proofs.Try.prog 39 (fun {α} => rowK g39v3tp g39v3bp (g39v3K (g39v3 (α := α) m))) := row_of (g39v3Fn m)

/-! ### g54v4: laws.eqInt8S -/
def g54v4l0b {α : Type}   (m906 : Nat) (m907 : Nat) (m908 : Nat) (m910 : Nat) (a911 : List Int) (a912 : List Int) (k918 : Option α) (k919 : Option α) (r920 : Int → Option α) (v909 : Int) : Option α :=
  cond (decide (v909 < ((m907 : Nat) : Int)))
   (
    if 0 ≤ v909 ∧ v909 < (m907 : Nat) then
      if (m906 + v909.toNat) < m910 then
        if 0 ≤ v909 ∧ v909 < (a912.length : Nat) then
          if v909.toNat < a912.length then
            cond ((List.getD a911 (m906 + v909.toNat) 0) != (List.getD a912 v909.toNat 0))
             (
              k918)
             (
              r920 (IntKind.wrap .i64 (v909 + (1 : Int))))
          else
            none
        else
          none
      else
        none
    else
      none)
   (
    k919)
def g54v4l0 {α : Type}   (m906 : Nat) (m907 : Nat) (m908 : Nat) (m910 : Nat) (a911 : List Int) (a912 : List Int) (k918 : Option α) (k919 : Option α) : Nat → Int → Option α
  | 0 => fun _ => none
  | m + 1 => fun v909 => g54v4l0b m906 m907 m908 m910 a911 a912 k918 k919 (g54v4l0 m906 m907 m908 m910 a911 a912 k918 k919 m) v909
def g54v4l0M {α : Type} (m : Nat) : Nat → Nat → Nat → Nat → (List Int) → (List Int) → (Option α) → (Option α) → Int → Option α :=
  fun m906 m907 m908 m910 a911 a912 k918 k919 v909 => g54v4l0 m906 m907 m908 m910 a911 a912 k918 k919 m v909
def g54v4l0D : LoopD := { n := 26, low := [0, 1], sl := [0, 1, 5], bl := [0, 1], tp := [(.vl (.sv (.slc 0 0 1))), (.vl (.sv (.gsl 1 1))), (.vl (.sv (.int .i64)))], bp := [(false, [(.seqv (.int .i8))]), (false, [(.gro (.int .i8))])], xs := [(1, [4]), (2, [])] }
def g54v4l0K {α : Type} (L : Nat → Nat → Nat → Nat → (List Int) → (List Int) → (Option α) → (Option α) → Int → Option α) (ls : List Lf) (k : Ex → St → Option α) : Option α :=
  L (lf ls 0).nat (lf ls 1).nat (lf ls 2).nat (lf ls 4).nat ((lf ls 5).lst (.int .i8)) ((lf ls 6).lst (.int .i8))
    (k .ret (mkSt 26 [4] [(.vl (.sv (.bool false)))] [0, 1] [(false, [(.seq (.int .i8) (lf ls 4).nat ((lf ls 5).lst (.int .i8)))]), (false, [(.gro (.int .i8) ((lf ls 6).lst (.int .i8)))])]))
    (k .normal (mkSt 26 [] [] [0, 1] [(false, [(.seq (.int .i8) (lf ls 4).nat ((lf ls 5).lst (.int .i8)))]), (false, [(.gro (.int .i8) ((lf ls 6).lst (.int .i8)))])]))
    (lf ls 3).int
def g54v4b {α : Type}  (L_g54v4l0 : {α : Type} → Nat → Nat → Nat → Nat → (List Int) → (List Int) → (Option α) → (Option α) → Int → Option α) (m899 : Nat) (m900 : Nat) (m901 : Nat) (m902 : Nat) (u903 : List Int) (u904 : List Int) (k921 : Bool → Option α) : Option α :=
  cond (((m900 : Nat) : Int) != ((u904.length : Nat) : Int))
   (
    k921 false)
   (
    L_g54v4l0 m899 m900 m901 m902 u903 u904
      (
        k921 false)
      (
        k921 true)
      (0 : Int))
def g54v4 {α : Type} (m : Nat) : Nat → Nat → Nat → Nat → (List Int) → (List Int) → (Bool → Option α) → Option α :=
  g54v4b (g54v4l0M m)
def g54v4tp : List TP := [(.vl (.sv (.slc 0 0 1))), (.vl (.sv (.gsl 1 1)))]
def g54v4bp : List BP := [(false, [(.seqv (.int .i8))]), (false, [(.gro (.int .i8))])]
def g54v4K {α : Type} (G : Nat → Nat → Nat → Nat → (List Int) → (List Int) → (Bool → Option α) → Option α) (ls : List Lf) (k : TV → List (List Seg) → List (List Seg) → Option α) : Option α :=
  G (lf ls 0).nat (lf ls 1).nat (lf ls 2).nat (lf ls 3).nat ((lf ls 4).lst (.int .i8)) ((lf ls 5).lst (.int .i8))
    (fun y0 => k (.vl (.sv (.bool y0))) [[(.seq (.int .i8) (lf ls 3).nat ((lf ls 4).lst (.int .i8)))], [(.gro (.int .i8) ((lf ls 5).lst (.int .i8)))]] [])
def g54v4hd  (L_g54v4l0 : {α : Type} → Nat → Nat → Nat → Nat → (List Int) → (List Int) → (Option α) → (Option α) → Int → Option α) : Hd where
  call := fun f args Bs k => none
  loop := fun id st k => cond (Nat.beq id 0) (loopH g54v4l0D (g54v4l0K L_g54v4l0) st k) (none)
  ro := fun f => []
def g54v4h (m : Nat) : Hd := g54v4hd (g54v4l0M m)
theorem g54v4l0Step  (L_g54v4l0 : {α : Type} → Nat → Nat → Nat → Nat → (List Int) → (List Int) → (Option α) → (Option α) → Int → Option α) {α : Type} (L : Nat → Nat → Nat → Nat → (List Int) → (List Int) → (Option α) → (Option α) → Int → Option α) (ls : List Lf) (k : Ex → St → Option α) :
    g54v4l0K (fun m906 m907 m908 m910 a911 a912 k918 k919 v909 => g54v4l0b m906 m907 m908 m910 a911 a912 k918 k919 (L m906 m907 m908 m910 a911 a912 k918 k919) v909) ls k = ev tab (g54v4hd L_g54v4l0) (bodyAt Go.Proofs.Try.f54 0) (atHead g54v4l0D ls) (loopK g54v4l0D 0 (loopH g54v4l0D (g54v4l0K L)) k) := by kernel_rfl
theorem g54v4Main  (L_g54v4l0 : {α : Type} → Nat → Nat → Nat → Nat → (List Int) → (List Int) → (Option α) → (Option α) → Int → Option α) {α : Type} (ls : List Lf) (k : TV → List (List Seg) → List (List Seg) → Option α) :
    g54v4K (g54v4b L_g54v4l0) ls k = evFun tab (g54v4hd L_g54v4l0) Go.Proofs.Try.f54 (fillT g54v4tp ls).1 (fillB g54v4bp (fillT g54v4tp ls).2).1 k := by kernel_rfl
theorem g54v4Calls (m : Nat) : (g54v4h m).CallsOk Go.Proofs.Try.prog := cok_nil
theorem g54v4l0Ok (m : Nat) (α : Type) (st : St) (k : Ex → St → Option α) (r : α) (h : (g54v4h m).loop 0 st k = some r) :
    ∃ e st', k e st' = some r ∧ CodeS Go.Proofs.Try.prog (.block 0 (.loop (bodyAt Go.Proofs.Try.f54 0))) st e st' :=
  loop_ok (tab := tab) (h := g54v4h m) (F := fun n ls k => g54v4l0K (fun m906 m907 m908 m910 a911 a912 k918 k919 v909 => g54v4l0 m906 m907 m908 m910 a911 a912 k918 k919 n v909) ls k) tabOk (g54v4Calls m) mixed (loopsOk_of _ (fun p hp => by rw [show loopsOf (bodyAt Go.Proofs.Try.f54 0) = [] by kernel_rfl] at hp; cases hp))
    (fun _ _ => rfl) (fun n ls k => g54v4l0Step (g54v4l0M m) (fun m906 m907 m908 m910 a911 a912 k918 k919 => g54v4l0 m906 m907 m908 m910 a911 a912 k918 k919 n) ls k) (n := m) h
theorem g54v4Fn (m : Nat) : FnOk Go.Proofs.Try.prog 54 g54v4tp g54v4bp (fun {α} => g54v4K (g54v4 (α := α) m)) :=
  fn_ok (tab := tab) (h := g54v4h m) (fn := Go.Proofs.Try.f54) (F := fun {α} => g54v4K (g54v4 (α := α) m)) tabOk (g54v4Calls m) mixed (by kernel_rfl) (by kernel_rfl) (fun c hc => by
    rw [bodyOf_some hc]
    exact loopsOk_of _ (fun p hp => by
    rw [show loopsOf (bodyOf Go.Proofs.Try.f54) = [(0, bodyAt Go.Proofs.Try.f54 0)] by kernel_rfl] at hp
    simp only [List.mem_cons, List.not_mem_nil, or_false] at hp
    rcases hp with rfl
    exact g54v4l0Ok m))
    (fun α ls k => g54v4Main (g54v4l0M m) ls k)
theorem g54v4Ok (m : Nat) : RowOk Go.Proofs.Try.prog 54 (fun {α} => rowK g54v4tp g54v4bp (g54v4K (g54v4 (α := α) m))) := row_of (g54v4Fn m)

/-! ### g39v4: laws.eqStream -/
def g39v4b {α : Type} (G_g54v4 : {α : Type} → Nat → Nat → Nat → Nat → (List Int) → (List Int) → (Bool → Option α) → Option α)  (m887 : Nat) (m888 : Nat) (m889 : Nat) (m890 : Nat) (m891 : Nat) (m892 : Nat) (m893 : Nat) (u894 : List Int) (m895 : Nat) (u896 : List Int) (u897 : List Int) (u898 : List Int) (k926 : Bool → Option α) : Option α :=
  G_g54v4 m887 m888 m889 m893 u894 u897
    (fun b922 =>
      cond (!b922)
       (
        k926 false)
       (
        G_g54v4 m890 m891 m892 m895 u896 u898
          (fun b924 =>
            cond (!b924)
             (
              k926 false)
             (
              k926 true))))
def g39v4 {α : Type} (m : Nat) : Nat → Nat → Nat → Nat → Nat → Nat → Nat → (List Int) → Nat → (List Int) → (List Int) → (List Int) → (Bool → Option α) → Option α :=
  g39v4b (g54v4 m)
def g39v4tp : List TP := [(.vl (.agg [(.one (.slc 0 0 1)), (.one (.slc 1 0 1))])), (.vl (.agg [(.one (.gsl 2 1)), (.one (.gsl 3 1))]))]
def g39v4bp : List BP := [(false, [(.seqv (.int .i8))]), (false, [(.seqv (.int .i8))]), (false, [(.gro (.int .i8))]), (false, [(.gro (.int .i8))])]
def g39v4K {α : Type} (G : Nat → Nat → Nat → Nat → Nat → Nat → Nat → (List Int) → Nat → (List Int) → (List Int) → (List Int) → (Bool → Option α) → Option α) (ls : List Lf) (k : TV → List (List Seg) → List (List Seg) → Option α) : Option α :=
  G (lf ls 0).nat (lf ls 1).nat (lf ls 2).nat (lf ls 3).nat (lf ls 4).nat (lf ls 5).nat (lf ls 6).nat ((lf ls 7).lst (.int .i8)) (lf ls 8).nat ((lf ls 9).lst (.int .i8)) ((lf ls 10).lst (.int .i8)) ((lf ls 11).lst (.int .i8))
    (fun y0 => k (.vl (.sv (.bool y0))) [[(.seq (.int .i8) (lf ls 6).nat ((lf ls 7).lst (.int .i8)))], [(.seq (.int .i8) (lf ls 8).nat ((lf ls 9).lst (.int .i8)))], [(.gro (.int .i8) ((lf ls 10).lst (.int .i8)))], [(.gro (.int .i8) ((lf ls 11).lst (.int .i8)))]] [])
def g39v4hd (G_g54v4 : {α : Type} → Nat → Nat → Nat → Nat → (List Int) → (List Int) → (Bool → Option α) → Option α)  : Hd where
  call := fun f args Bs k => cond (Nat.beq f 54) (rowK g54v4tp g54v4bp (g54v4K G_g54v4) args Bs k) (none)
  loop := fun id st k => none
  ro := fun f => cond (Nat.beq f 54) [0, 1] ([])
def g39v4h (m : Nat) : Hd := g39v4hd (g54v4 m)
theorem g39v4Main (G_g54v4 : {α : Type} → Nat → Nat → Nat → Nat → (List Int) → (List Int) → (Bool → Option α) → Option α)  {α : Type} (ls : List Lf) (k : TV → List (List Seg) → List (List Seg) → Option α) :
    g39v4K (g39v4b G_g54v4) ls k = evFun tab (g39v4hd G_g54v4) Go.Proofs.Try.f39 (fillT g39v4tp ls).1 (fillB g39v4bp (fillT g39v4tp ls).2).1 k := by kernel_rfl
theorem g39v4Calls (m : Nat) : (g39v4h m).CallsOk Go.Proofs.Try.prog := (cok_cons (g54v4Ok m) cok_nil)
theorem g39v4Fn (m : Nat) : FnOk Go.Proofs.Try.prog 39 g39v4tp g39v4bp (fun {α} => g39v4K (g39v4 (α := α) m)) :=
  fn_ok (tab := tab) (h := g39v4h m) (fn := Go.Proofs.Try.f39) (F := fun {α} => g39v4K (g39v4 (α := α) m)) tabOk (g39v4Calls m) mixed (by kernel_rfl) (by kernel_rfl) (fun c hc => by
    rw [bodyOf_some hc]
    exact loopsOk_of _ (fun p hp => by rw [show loopsOf (bodyOf Go.Proofs.Try.f39) = [] by kernel_rfl] at hp; cases hp))
    (fun α ls k => g39v4Main (g54v4 m) ls k)
theorem g39v4Ok (m : Nat) : RowOk Go.Proofs.Try.prog 39 (fun {α} => rowK g39v4tp g39v4bp (g39v4K (g39v4 (α := α) m))) := row_of (g39v4Fn m)

/-! ### g56v1: laws.heldInt8S -/
def g56v1l0b {α : Type}   (m959 : Nat) (m960 : Nat) (m961 : Nat) (m964 : Nat) (a965 : List Int) (k972 : Option α) (k973 : Int → Option α) (r974 : Int → Int → Option α) (v962 : Int) (v963 : Int) : Option α :=
  cond (decide (v963 < ((m960 : Nat) : Int)))
   (
    if 0 ≤ v963 ∧ v963 < (m960 : Nat) then
      if (m959 + v963.toNat) < m964 then
        cond ((List.getD a965 (m959 + v963.toNat) 0) != (IntKind.wrap .i8 v962))
         (
          k972)
         (
          r974 (IntKind.wrap .i64 (v962 + (1 : Int))) (IntKind.wrap .i64 (v963 + (1 : Int))))
      else
        none
    else
      none)
   (
    k973 v962)
def g56v1l0 {α : Type}   (m959 : Nat) (m960 : Nat) (m961 : Nat) (m964 : Nat) (a965 : List Int) (k972 : Option α) (k973 : Int → Option α) : Nat → Int → Int → Option α
  | 0 => fun _ _ => none
  | m + 1 => fun v962 v963 => g56v1l0b m959 m960 m961 m964 a965 k972 k973 (g56v1l0 m959 m960 m961 m964 a965 k972 k973 m) v962 v963
def g56v1l0M {α : Type} (m : Nat) : Nat → Nat → Nat → Nat → (List Int) → (Option α) → (Int → Option α) → Int → Int → Option α :=
  fun m959 m960 m961 m964 a965 k972 k973 v962 v963 => g56v1l0 m959 m960 m961 m964 a965 k972 k973 m v962 v963
def g56v1l0D : LoopD := { n := 22, low := [0], sl := [0, 1, 5], bl := [0], tp := [(.vl (.sv (.slc 0 0 1))), (.vl (.sv (.int .i64))), (.vl (.sv (.int .i64)))], bp := [(false, [(.seqv (.int .i8))])], xs := [(1, [4]), (2, [1])] }
def g56v1l0K {α : Type} (L : Nat → Nat → Nat → Nat → (List Int) → (Option α) → (Int → Option α) → Int → Int → Option α) (ls : List Lf) (k : Ex → St → Option α) : Option α :=
  L (lf ls 0).nat (lf ls 1).nat (lf ls 2).nat (lf ls 5).nat ((lf ls 6).lst (.int .i8))
    (k .ret (mkSt 22 [4] [(.vl (.sv (.int .i64 (-1 : Int))))] [0] [(false, [(.seq (.int .i8) (lf ls 5).nat ((lf ls 6).lst (.int .i8)))])]))
    (fun y0 => k .normal (mkSt 22 [1] [(.vl (.sv (.int .i64 y0)))] [0] [(false, [(.seq (.int .i8) (lf ls 5).nat ((lf ls 6).lst (.int .i8)))])]))
    (lf ls 3).int (lf ls 4).int
def g56v1b {α : Type}  (L_g56v1l0 : {α : Type} → Nat → Nat → Nat → Nat → (List Int) → (Option α) → (Int → Option α) → Int → Int → Option α) (m953 : Nat) (m954 : Nat) (m955 : Nat) (p956 : Int) (m957 : Nat) (u958 : List Int) (k976 : Int → Option α) : Option α :=
  L_g56v1l0 m953 m954 m955 m957 u958
    (
      k976 (-1 : Int))
    (fun x975 =>
      k976 x975)
    p956 (0 : Int)
def g56v1 {α : Type} (m : Nat) : Nat → Nat → Nat → Int → Nat → (List Int) → (Int → Option α) → Option α :=
  g56v1b (g56v1l0M m)
def g56v1tp : List TP := [(.vl (.sv (.slc 0 0 1))), (.vl (.sv (.int .i64)))]
def g56v1bp : List BP := [(false, [(.seqv (.int .i8))])]
def g56v1K {α : Type} (G : Nat → Nat → Nat → Int → Nat → (List Int) → (Int → Option α) → Option α) (ls : List Lf) (k : TV → List (List Seg) → List (List Seg) → Option α) : Option α :=
  G (lf ls 0).nat (lf ls 1).nat (lf ls 2).nat (lf ls 3).int (lf ls 4).nat ((lf ls 5).lst (.int .i8))
    (fun y0 => k (.vl (.sv (.int .i64 y0))) [[(.seq (.int .i8) (lf ls 4).nat ((lf ls 5).lst (.int .i8)))]] [])
def g56v1hd  (L_g56v1l0 : {α : Type} → Nat → Nat → Nat → Nat → (List Int) → (Option α) → (Int → Option α) → Int → Int → Option α) : Hd where
  call := fun f args Bs k => none
  loop := fun id st k => cond (Nat.beq id 0) (loopH g56v1l0D (g56v1l0K L_g56v1l0) st k) (none)
  ro := fun f => []
def g56v1h (m : Nat) : Hd := g56v1hd (g56v1l0M m)
theorem g56v1l0Step  (L_g56v1l0 : {α : Type} → Nat → Nat → Nat → Nat → (List Int) → (Option α) → (Int → Option α) → Int → Int → Option α) {α : Type} (L : Nat → Nat → Nat → Nat → (List Int) → (Option α) → (Int → Option α) → Int → Int → Option α) (ls : List Lf) (k : Ex → St → Option α) :
    g56v1l0K (fun m959 m960 m961 m964 a965 k972 k973 v962 v963 => g56v1l0b m959 m960 m961 m964 a965 k972 k973 (L m959 m960 m961 m964 a965 k972 k973) v962 v963) ls k = ev tab (g56v1hd L_g56v1l0) (bodyAt Go.Proofs.Try.f56 0) (atHead g56v1l0D ls) (loopK g56v1l0D 0 (loopH g56v1l0D (g56v1l0K L)) k) := by kernel_rfl
theorem g56v1Main  (L_g56v1l0 : {α : Type} → Nat → Nat → Nat → Nat → (List Int) → (Option α) → (Int → Option α) → Int → Int → Option α) {α : Type} (ls : List Lf) (k : TV → List (List Seg) → List (List Seg) → Option α) :
    g56v1K (g56v1b L_g56v1l0) ls k = evFun tab (g56v1hd L_g56v1l0) Go.Proofs.Try.f56 (fillT g56v1tp ls).1 (fillB g56v1bp (fillT g56v1tp ls).2).1 k := by kernel_rfl
theorem g56v1Calls (m : Nat) : (g56v1h m).CallsOk Go.Proofs.Try.prog := cok_nil
theorem g56v1l0Ok (m : Nat) (α : Type) (st : St) (k : Ex → St → Option α) (r : α) (h : (g56v1h m).loop 0 st k = some r) :
    ∃ e st', k e st' = some r ∧ CodeS Go.Proofs.Try.prog (.block 0 (.loop (bodyAt Go.Proofs.Try.f56 0))) st e st' :=
  loop_ok (tab := tab) (h := g56v1h m) (F := fun n ls k => g56v1l0K (fun m959 m960 m961 m964 a965 k972 k973 v962 v963 => g56v1l0 m959 m960 m961 m964 a965 k972 k973 n v962 v963) ls k) tabOk (g56v1Calls m) mixed (loopsOk_of _ (fun p hp => by rw [show loopsOf (bodyAt Go.Proofs.Try.f56 0) = [] by kernel_rfl] at hp; cases hp))
    (fun _ _ => rfl) (fun n ls k => g56v1l0Step (g56v1l0M m) (fun m959 m960 m961 m964 a965 k972 k973 => g56v1l0 m959 m960 m961 m964 a965 k972 k973 n) ls k) (n := m) h
theorem g56v1Fn (m : Nat) : FnOk Go.Proofs.Try.prog 56 g56v1tp g56v1bp (fun {α} => g56v1K (g56v1 (α := α) m)) :=
  fn_ok (tab := tab) (h := g56v1h m) (fn := Go.Proofs.Try.f56) (F := fun {α} => g56v1K (g56v1 (α := α) m)) tabOk (g56v1Calls m) mixed (by kernel_rfl) (by kernel_rfl) (fun c hc => by
    rw [bodyOf_some hc]
    exact loopsOk_of _ (fun p hp => by
    rw [show loopsOf (bodyOf Go.Proofs.Try.f56) = [(0, bodyAt Go.Proofs.Try.f56 0)] by kernel_rfl] at hp
    simp only [List.mem_cons, List.not_mem_nil, or_false] at hp
    rcases hp with rfl
    exact g56v1l0Ok m))
    (fun α ls k => g56v1Main (g56v1l0M m) ls k)
theorem g56v1Ok (m : Nat) : RowOk Go.Proofs.Try.prog 56 (fun {α} => rowK g56v1tp g56v1bp (g56v1K (g56v1 (α := α) m))) := row_of (g56v1Fn m)

/-! ### g49v1: laws.heldStream -/
def g49v1b {α : Type} (G_g56v1 : {α : Type} → Nat → Nat → Nat → Int → Nat → (List Int) → (Int → Option α) → Option α)  (m942 : Nat) (m943 : Nat) (m944 : Nat) (m945 : Nat) (m946 : Nat) (m947 : Nat) (p948 : Int) (m949 : Nat) (u950 : List Int) (m951 : Nat) (u952 : List Int) (k981 : Int → Option α) : Option α :=
  G_g56v1 m942 m943 m944 p948 m949 u950
    (fun x977 =>
      cond (decide (x977 < (0 : Int)))
       (
        k981 (-1 : Int))
       (
        G_g56v1 m945 m946 m947 x977 m951 u952
          (fun x979 =>
            cond (decide (x979 < (0 : Int)))
             (
              k981 (-1 : Int))
             (
              k981 x979))))
def g49v1 {α : Type} (m : Nat) : Nat → Nat → Nat → Nat → Nat → Nat → Int → Nat → (List Int) → Nat → (List Int) → (Int → Option α) → Option α :=
  g49v1b (g56v1 m)
def g49v1tp : List TP := [(.vl (.agg [(.one (.slc 0 0 1)), (.one (.slc 1 0 1))])), (.vl (.sv (.int .i64)))]
def g49v1bp : List BP := [(false, [(.seqv (.int .i8))]), (false, [(.seqv (.int .i8))])]
def g49v1K {α : Type} (G : Nat → Nat → Nat → Nat → Nat → Nat → Int → Nat → (List Int) → Nat → (List Int) → (Int → Option α) → Option α) (ls : List Lf) (k : TV → List (List Seg) → List (List Seg) → Option α) : Option α :=
  G (lf ls 0).nat (lf ls 1).nat (lf ls 2).nat (lf ls 3).nat (lf ls 4).nat (lf ls 5).nat (lf ls 6).int (lf ls 7).nat ((lf ls 8).lst (.int .i8)) (lf ls 9).nat ((lf ls 10).lst (.int .i8))
    (fun y0 => k (.vl (.sv (.int .i64 y0))) [[(.seq (.int .i8) (lf ls 7).nat ((lf ls 8).lst (.int .i8)))], [(.seq (.int .i8) (lf ls 9).nat ((lf ls 10).lst (.int .i8)))]] [])
def g49v1hd (G_g56v1 : {α : Type} → Nat → Nat → Nat → Int → Nat → (List Int) → (Int → Option α) → Option α)  : Hd where
  call := fun f args Bs k => cond (Nat.beq f 56) (rowK g56v1tp g56v1bp (g56v1K G_g56v1) args Bs k) (none)
  loop := fun id st k => none
  ro := fun f => cond (Nat.beq f 56) [0] ([])
def g49v1h (m : Nat) : Hd := g49v1hd (g56v1 m)
theorem g49v1Main (G_g56v1 : {α : Type} → Nat → Nat → Nat → Int → Nat → (List Int) → (Int → Option α) → Option α)  {α : Type} (ls : List Lf) (k : TV → List (List Seg) → List (List Seg) → Option α) :
    g49v1K (g49v1b G_g56v1) ls k = evFun tab (g49v1hd G_g56v1) Go.Proofs.Try.f49 (fillT g49v1tp ls).1 (fillB g49v1bp (fillT g49v1tp ls).2).1 k := by kernel_rfl
theorem g49v1Calls (m : Nat) : (g49v1h m).CallsOk Go.Proofs.Try.prog := (cok_cons (g56v1Ok m) cok_nil)
theorem g49v1Fn (m : Nat) : FnOk Go.Proofs.Try.prog 49 g49v1tp g49v1bp (fun {α} => g49v1K (g49v1 (α := α) m)) :=
  fn_ok (tab := tab) (h := g49v1h m) (fn := Go.Proofs.Try.f49) (F := fun {α} => g49v1K (g49v1 (α := α) m)) tabOk (g49v1Calls m) mixed (by kernel_rfl) (by kernel_rfl) (fun c hc => by
    rw [bodyOf_some hc]
    exact loopsOk_of _ (fun p hp => by rw [show loopsOf (bodyOf Go.Proofs.Try.f49) = [] by kernel_rfl] at hp; cases hp))
    (fun α ls k => g49v1Main (g56v1 m) ls k)
theorem g49v1Ok (m : Nat) : RowOk Go.Proofs.Try.prog 49 (fun {α} => rowK g49v1tp g49v1bp (g49v1K (g49v1 (α := α) m))) := row_of (g49v1Fn m)

/-! ### g14: laws.FnExactNegStream -/
def g14b {α : Type} (G_g35 : {α : Type} → Nat → Nat → Nat → Nat → Nat → Nat → Int → Nat → (List Int) → Nat → (List Int) → (Int → Option α) → Option α) (G_g37 : {α : Type} → Nat → Nat → Nat → Nat → Nat → Nat → Nat → (List Int) → Nat → (List Int) → ((List Int) → (List Int) → Option α) → Option α) (G_g46 : {α : Type} → Nat → Nat → Nat → Nat → Nat → Nat → Nat → (List Int) → Nat → (List Int) → (Option α) → ((List Int) → (List Int) → Option α) → Option α) (G_g47 : {α : Type} → Nat → Nat → Nat → Nat → Nat → Nat → Nat → (List Int) → Nat → (List Int) → (Option α) → ((List Int) → (List Int) → Option α) → Option α) (G_g39v1 : {α : Type} → (Option α) → Option α) (G_g39 : {α : Type} → Nat → Nat → Nat → Nat → Nat → Nat → Nat → Nat → Nat → Nat → Nat → Nat → Nat → (List Int) → Nat → (List Int) → Nat → (List Int) → Nat → (List Int) → (Bool → Option α) → Option α) (G_g48 : {α : Type} → Nat → Nat → Nat → Nat → Nat → Nat → Int → Nat → (List Int) → Nat → (List Int) → (Int → (List Int) → (List Int) → Option α) → Option α) (G_g48v1 : {α : Type} → Int → (Option α) → Option α) (G_g49 : {α : Type} → Int → (Int → Option α) → Option α) (G_g39v2 : {α : Type} → Nat → Nat → Nat → Nat → Nat → Nat → Nat → (List Int) → Nat → (List Int) → (Bool → Option α) → Option α) (G_g39v3 : {α : Type} → (List Int) → (List Int) → (Bool → Option α) → Option α) (G_g39v4 : {α : Type} → Nat → Nat → Nat → Nat → Nat → Nat → Nat → (List Int) → Nat → (List Int) → (List Int) → (List Int) → (Bool → Option α) → Option α) (G_g49v1 : {α : Type} → Nat → Nat → Nat → Nat → Nat → Nat → Int → Nat → (List Int) → Nat → (List Int) → (Int → Option α) → Option α)  (m646 : Nat) (m647 : Nat) (m648 : Nat) (m649 : Nat) (m650 : Nat) (m651 : Nat) (m652 : Nat) (u653 : List Int) (m654 : Nat) (u655 : List Int) (k996 : Bool → Option α) : Option α :=
  G_g35 m646 m647 m648 m649 m650 m651 (1048576 : Int) m652 u653 m654 u655
    (fun x656 =>
      cond (decide (x656 < (0 : Int)))
       (
        k996 true)
       (
        G_g37 m646 m647 m648 m649 m650 m651 m652 u653 m654 u655
          (fun l658 l659 =>
            G_g46 0 m647 m647 0 m650 m650 m647 l658 m650 l659
              (
                G_g37 m646 m647 m648 m649 m650 m651 m652 u653 m654 u655
                  (fun l697 l698 =>
                    G_g47 0 m647 m647 0 m650 m650 m647 l697 m650 l698
                      (
                        G_g39v1
                          (
                            G_g37 m646 m647 m648 m649 m650 m651 m652 u653 m654 u655
                              (fun l748 l749 =>
                                G_g39 0 m647 m647 0 m650 m650 0 m647 m647 0 m650 m650 m647 l697 m650 l698 m647 l748 m650 l749
                                  (fun b750 =>
                                    cond (!b750)
                                     (
                                      k996 false)
                                     (
                                      G_g48 0 m647 m647 0 m650 m650 (1 : Int) m647 l697 m650 l698
                                        (fun x791 l792 l793 =>
                                          cond (decide (x791 < (0 : Int)))
                                           (
                                            k996 false)
                                           (
                                            G_g39v1
                                              (
                                                G_g48v1 (1 : Int)
                                                  (
                                                    G_g49 (1 : Int)
                                                      (fun x816 =>
                                                        cond (decide (x816 < (0 : Int)))
                                                         (
                                                          k996 false)
                                                         (
                                                          cond (x816 != (1 : Int))
                                                           (
                                                            k996 false)
                                                           (
                                                            G_g37 m646 m647 m648 m649 m650 m651 m652 u653 m654 u655
                                                              (fun l819 l820 =>
                                                                G_g47 0 m647 m647 0 m650 m650 m647 l819 m650 l820
                                                                  (
                                                                    G_g39v1
                                                                      (
                                                                        G_g49 (1 : Int)
                                                                          (fun x821 =>
                                                                            cond (decide (x821 < (0 : Int)))
                                                                             (
                                                                              k996 false)
                                                                             (
                                                                              cond (x821 != (1 : Int))
                                                                               (
                                                                                k996 false)
                                                                               (
                                                                                k996 true)))))
                                                                  (fun l824 l825 =>
                                                                    G_g39v2 0 m647 m647 0 m650 m650 m647 l824 m650 l825
                                                                      (fun b858 =>
                                                                        cond (!b858)
                                                                         (
                                                                          k996 false)
                                                                         (
                                                                          k996 false))))))))))))))))
                      (fun l860 l861 =>
                        G_g39v2 0 m647 m647 0 m650 m650 m647 l860 m650 l861
                          (fun b862 =>
                            cond (!b862)
                             (
                              k996 false)
                             (
                              k996 false)))))
              (fun l864 l865 =>
                G_g37 m646 m647 m648 m649 m650 m651 m652 u653 m654 u655
                  (fun l866 l867 =>
                    G_g47 0 m647 m647 0 m650 m650 m647 l866 m650 l867
                      (
                        G_g39v3 l864 l865
                          (fun b883 =>
                            cond (!b883)
                             (
                              k996 false)
                             (
                              k996 false)))
                      (fun l885 l886 =>
                        G_g39v4 0 m647 m647 0 m650 m650 m647 l885 m650 l886 l864 l865
                          (fun b927 =>
                            cond (!b927)
                             (
                              k996 false)
                             (
                              G_g37 m646 m647 m648 m649 m650 m651 m652 u653 m654 u655
                                (fun l929 l930 =>
                                  G_g39 0 m647 m647 0 m650 m650 0 m647 m647 0 m650 m650 m647 l866 m650 l867 m647 l929 m650 l930
                                    (fun b931 =>
                                      cond (!b931)
                                       (
                                        k996 false)
                                       (
                                        G_g48 0 m647 m647 0 m650 m650 (1 : Int) m647 l866 m650 l867
                                          (fun x933 l934 l935 =>
                                            cond (decide (x933 < (0 : Int)))
                                             (
                                              k996 false)
                                             (
                                              G_g39v4 0 m647 m647 0 m650 m650 m647 l885 m650 l886 l864 l865
                                                (fun b937 =>
                                                  cond (!b937)
                                                   (
                                                    k996 false)
                                                   (
                                                    G_g48 0 m647 m647 0 m650 m650 (1 : Int) m647 l885 m650 l886
                                                      (fun x939 l940 l941 =>
                                                        G_g49v1 0 m647 m647 0 m650 m650 (1 : Int) m647 l940 m650 l941
                                                          (fun x982 =>
                                                            cond (decide (x982 < (0 : Int)))
                                                             (
                                                              k996 false)
                                                             (
                                                              cond (x982 != x939)
                                                               (
                                                                k996 false)
                                                               (
                                                                G_g37 m646 m647 m648 m649 m650 m651 m652 u653 m654 u655
                                                                  (fun l985 l986 =>
                                                                    G_g47 0 m647 m647 0 m650 m650 m647 l985 m650 l986
                                                                      (
                                                                        G_g39v3 l864 l865
                                                                          (fun b987 =>
                                                                            cond (!b987)
                                                                             (
                                                                              k996 false)
                                                                             (
                                                                              k996 false)))
                                                                      (fun l989 l990 =>
                                                                        G_g39v4 0 m647 m647 0 m650 m650 m647 l989 m650 l990 l864 l865
                                                                          (fun b991 =>
                                                                            cond (!b991)
                                                                             (
                                                                              k996 false)
                                                                             (
                                                                              G_g49v1 0 m647 m647 0 m650 m650 (1 : Int) m647 l940 m650 l941
                                                                                (fun x993 =>
                                                                                  cond (decide (x993 < (0 : Int)))
                                                                                   (
                                                                                    k996 false)
                                                                                   (
                                                                                    cond (x993 != x939)
                                                                                     (
                                                                                      k996 false)
                                                                                     (
                                                                                      k996 true))))))))))))))))))))))))))
def g14 {α : Type} (m : Nat) : Nat → Nat → Nat → Nat → Nat → Nat → Nat → (List Int) → Nat → (List Int) → (Bool → Option α) → Option α :=
  g14b (g35 m) (g37 m) (g46 m) (g47 m) (g39v1 m) (g39 m) (g48 m) (g48v1 m) (g49 m) (g39v2 m) (g39v3 m) (g39v4 m) (g49v1 m)
def g14tp : List TP := [(.vl (.agg [(.one (.sla 0 0 1)), (.one (.sla 1 0 1))]))]
def g14bp : List BP := [(false, [(.seqv (.int .i8))]), (false, [(.seqv (.int .i8))])]
def g14K {α : Type} (G : Nat → Nat → Nat → Nat → Nat → Nat → Nat → (List Int) → Nat → (List Int) → (Bool → Option α) → Option α) (ls : List Lf) (k : TV → List (List Seg) → List (List Seg) → Option α) : Option α :=
  G (lf ls 0).nat (lf ls 1).nat (lf ls 2).nat (lf ls 3).nat (lf ls 4).nat (lf ls 5).nat (lf ls 6).nat ((lf ls 7).lst (.int .i8)) (lf ls 8).nat ((lf ls 9).lst (.int .i8))
    (fun y0 => k (.vl (.sv (.bool y0))) [[(.seq (.int .i8) (lf ls 6).nat ((lf ls 7).lst (.int .i8)))], [(.seq (.int .i8) (lf ls 8).nat ((lf ls 9).lst (.int .i8)))]] [])
def g14hd (G_g35 : {α : Type} → Nat → Nat → Nat → Nat → Nat → Nat → Int → Nat → (List Int) → Nat → (List Int) → (Int → Option α) → Option α) (G_g37 : {α : Type} → Nat → Nat → Nat → Nat → Nat → Nat → Nat → (List Int) → Nat → (List Int) → ((List Int) → (List Int) → Option α) → Option α) (G_g46 : {α : Type} → Nat → Nat → Nat → Nat → Nat → Nat → Nat → (List Int) → Nat → (List Int) → (Option α) → ((List Int) → (List Int) → Option α) → Option α) (G_g47 : {α : Type} → Nat → Nat → Nat → Nat → Nat → Nat → Nat → (List Int) → Nat → (List Int) → (Option α) → ((List Int) → (List Int) → Option α) → Option α) (G_g39v1 : {α : Type} → (Option α) → Option α) (G_g39 : {α : Type} → Nat → Nat → Nat → Nat → Nat → Nat → Nat → Nat → Nat → Nat → Nat → Nat → Nat → (List Int) → Nat → (List Int) → Nat → (List Int) → Nat → (List Int) → (Bool → Option α) → Option α) (G_g48 : {α : Type} → Nat → Nat → Nat → Nat → Nat → Nat → Int → Nat → (List Int) → Nat → (List Int) → (Int → (List Int) → (List Int) → Option α) → Option α) (G_g48v1 : {α : Type} → Int → (Option α) → Option α) (G_g49 : {α : Type} → Int → (Int → Option α) → Option α) (G_g39v2 : {α : Type} → Nat → Nat → Nat → Nat → Nat → Nat → Nat → (List Int) → Nat → (List Int) → (Bool → Option α) → Option α) (G_g39v3 : {α : Type} → (List Int) → (List Int) → (Bool → Option α) → Option α) (G_g39v4 : {α : Type} → Nat → Nat → Nat → Nat → Nat → Nat → Nat → (List Int) → Nat → (List Int) → (List Int) → (List Int) → (Bool → Option α) → Option α) (G_g49v1 : {α : Type} → Nat → Nat → Nat → Nat → Nat → Nat → Int → Nat → (List Int) → Nat → (List Int) → (Int → Option α) → Option α)  : Hd where
  call := fun f args Bs k => cond (Nat.beq f 35) (rowK g35tp g35bp (g35K G_g35) args Bs k) (cond (Nat.beq f 37) (rowK g37tp g37bp (g37K G_g37) args Bs k) (cond (Nat.beq f 46) (rowK g46tp g46bp (g46K G_g46) args Bs k) (cond (Nat.beq f 47) (rowK g47tp g47bp (g47K G_g47) args Bs k) (cond (Nat.beq f 39) (rowE g39v1tp g39v1bp (g39v1K G_g39v1) (rowE g39tp g39bp (g39K G_g39) (rowE g39v2tp g39v2bp (g39v2K G_g39v2) (rowE g39v3tp g39v3bp (g39v3K G_g39v3) (rowK g39v4tp g39v4bp (g39v4K G_g39v4))))) args Bs k) (cond (Nat.beq f 48) (rowE g48tp g48bp (g48K G_g48) (rowK g48v1tp g48v1bp (g48v1K G_g48v1)) args Bs k) (cond (Nat.beq f 49) (rowE g49tp g49bp (g49K G_g49) (rowK g49v1tp g49v1bp (g49v1K G_g49v1)) args Bs k) (none)))))))
  loop := fun id st k => none
  ro := fun f => cond (Nat.beq f 35) [0, 1] (cond (Nat.beq f 37) [0, 1] (cond (Nat.beq f 39) [0, 1, 2, 3] (cond (Nat.beq f 46) [0, 1] (cond (Nat.beq f 47) [0, 1] (cond (Nat.beq f 49) [0, 1] ([]))))))
def g14h (m : Nat) : Hd := g14hd (g35 m) (g37 m) (g46 m) (g47 m) (g39v1 m) (g39 m) (g48 m) (g48v1 m) (g49 m) (g39v2 m) (g39v3 m) (g39v4 m) (g49v1 m)
theorem g14Main (G_g35 : {α : Type} → Nat → Nat → Nat → Nat → Nat → Nat → Int → Nat → (List Int) → Nat → (List Int) → (Int → Option α) → Option α) (G_g37 : {α : Type} → Nat → Nat → Nat → Nat → Nat → Nat → Nat → (List Int) → Nat → (List Int) → ((List Int) → (List Int) → Option α) → Option α) (G_g46 : {α : Type} → Nat → Nat → Nat → Nat → Nat → Nat → Nat → (List Int) → Nat → (List Int) → (Option α) → ((List Int) → (List Int) → Option α) → Option α) (G_g47 : {α : Type} → Nat → Nat → Nat → Nat → Nat → Nat → Nat → (List Int) → Nat → (List Int) → (Option α) → ((List Int) → (List Int) → Option α) → Option α) (G_g39v1 : {α : Type} → (Option α) → Option α) (G_g39 : {α : Type} → Nat → Nat → Nat → Nat → Nat → Nat → Nat → Nat → Nat → Nat → Nat → Nat → Nat → (List Int) → Nat → (List Int) → Nat → (List Int) → Nat → (List Int) → (Bool → Option α) → Option α) (G_g48 : {α : Type} → Nat → Nat → Nat → Nat → Nat → Nat → Int → Nat → (List Int) → Nat → (List Int) → (Int → (List Int) → (List Int) → Option α) → Option α) (G_g48v1 : {α : Type} → Int → (Option α) → Option α) (G_g49 : {α : Type} → Int → (Int → Option α) → Option α) (G_g39v2 : {α : Type} → Nat → Nat → Nat → Nat → Nat → Nat → Nat → (List Int) → Nat → (List Int) → (Bool → Option α) → Option α) (G_g39v3 : {α : Type} → (List Int) → (List Int) → (Bool → Option α) → Option α) (G_g39v4 : {α : Type} → Nat → Nat → Nat → Nat → Nat → Nat → Nat → (List Int) → Nat → (List Int) → (List Int) → (List Int) → (Bool → Option α) → Option α) (G_g49v1 : {α : Type} → Nat → Nat → Nat → Nat → Nat → Nat → Int → Nat → (List Int) → Nat → (List Int) → (Int → Option α) → Option α)  {α : Type} (ls : List Lf) (k : TV → List (List Seg) → List (List Seg) → Option α) :
    g14K (g14b G_g35 G_g37 G_g46 G_g47 G_g39v1 G_g39 G_g48 G_g48v1 G_g49 G_g39v2 G_g39v3 G_g39v4 G_g49v1) ls k = evFun tab (g14hd G_g35 G_g37 G_g46 G_g47 G_g39v1 G_g39 G_g48 G_g48v1 G_g49 G_g39v2 G_g39v3 G_g39v4 G_g49v1) Go.Proofs.Try.f14 (fillT g14tp ls).1 (fillB g14bp (fillT g14tp ls).2).1 k := by kernel_rfl
theorem g14Calls (m : Nat) : (g14h m).CallsOk Go.Proofs.Try.prog := (cok_cons (g35Ok m) (cok_cons (g37Ok m) (cok_cons (g46Ok m) (cok_cons (g47Ok m) (cok_cons (row_else (g39v1Ok m) (row_else (g39Ok m) (row_else (g39v2Ok m) (row_else (g39v3Ok m) (g39v4Ok m))))) (cok_cons (row_else (g48Ok m) (g48v1Ok m)) (cok_cons (row_else (g49Ok m) (g49v1Ok m)) cok_nil)))))))
theorem g14Fn (m : Nat) : FnOk Go.Proofs.Try.prog 14 g14tp g14bp (fun {α} => g14K (g14 (α := α) m)) :=
  fn_ok (tab := tab) (h := g14h m) (fn := Go.Proofs.Try.f14) (F := fun {α} => g14K (g14 (α := α) m)) tabOk (g14Calls m) mixed (by kernel_rfl) (by kernel_rfl) (fun c hc => by
    rw [bodyOf_some hc]
    exact loopsOk_of _ (fun p hp => by rw [show loopsOf (bodyOf Go.Proofs.Try.f14) = [] by kernel_rfl] at hp; cases hp))
    (fun α ls k => g14Main (g35 m) (g37 m) (g46 m) (g47 m) (g39v1 m) (g39 m) (g48 m) (g48v1 m) (g49 m) (g39v2 m) (g39v3 m) (g39v4 m) (g49v1 m) ls k)
theorem g14Ok (m : Nat) : RowOk Go.Proofs.Try.prog 14 (fun {α} => rowK g14tp g14bp (g14K (g14 (α := α) m))) := row_of (g14Fn m)

/-! ### g50: spec.HalfStream -/
def g50b {α : Type} (G_g76 : {α : Type} → Nat → Nat → Nat → Nat → Nat → Nat → Nat → (List Int) → Nat → (List Int) → (Bool → Option α) → Option α)  (m1011 : Nat) (m1012 : Nat) (m1013 : Nat) (m1014 : Nat) (m1015 : Nat) (m1016 : Nat) (m1017 : Nat) (u1018 : List Int) (m1019 : Nat) (u1020 : List Int) (k1027 : Int → Option α) (k1028 : (List Int) → (List Int) → Option α) : Option α :=
  G_g76 m1011 m1012 m1013 m1014 m1015 m1016 m1017 u1018 m1019 u1020
    (fun b1021 =>
      cond (!b1021)
       (
        k1027 (1 : Int))
       (
        cond (((m1012 : Nat) : Int) == (16 : Int))
         (
          k1027 (3 : Int))
         (
          if m1011 + m1012 ≤ m1017 then
            let l1024 : List Int := List.take m1012 (List.drop m1011 u1018)
            if 1 + l1024.length ≤ 67108864 then
              if m1014 + m1015 ≤ m1019 then
                let l1026 : List Int := List.take m1015 (List.drop m1014 u1020)
                if 0 + l1026.length ≤ 67108864 then
                  k1028 ([(0 : Int)] ++ l1024) l1026
                else
                  none
              else
                none
            else
              none
          else
            none)))
def g50 {α : Type} (m : Nat) : Nat → Nat → Nat → Nat → Nat → Nat → Nat → (List Int) → Nat → (List Int) → (Int → Option α) → ((List Int) → (List Int) → Option α) → Option α :=
  g50b (g76 m)
def g50tp : List TP := [(.vl (.agg [(.one (.slc 0 0 1)), (.one (.slc 1 0 1))]))]
def g50bp : List BP := [(false, [(.seqv (.int .i8))]), (false, [(.seqv (.int .i8))])]
def g50K {α : Type} (G : Nat → Nat → Nat → Nat → Nat → Nat → Nat → (List Int) → Nat → (List Int) → (Int → Option α) → ((List Int) → (List Int) → Option α) → Option α) (ls : List Lf) (k : TV → List (List Seg) → List (List Seg) → Option α) : Option α :=
  G (lf ls 0).nat (lf ls 1).nat (lf ls 2).nat (lf ls 3).nat (lf ls 4).nat (lf ls 5).nat (lf ls 6).nat ((lf ls 7).lst (.int .i8)) (lf ls 8).nat ((lf ls 9).lst (.int .i8))
    (fun y0 => k (.tup [(.agg [(.one .nils), (.one .nils)]), (.sv (.int .i64 y0))]) [[(.seq (.int .i8) (lf ls 6).nat ((lf ls 7).lst (.int .i8)))], [(.seq (.int .i8) (lf ls 8).nat ((lf ls 9).lst (.int .i8)))]] [])
    (fun y5 y6 => k (.tup [(.agg [(.one (.gsl 2 1)), (.one (.gsl 3 1))]), (.sv (.int .i64 (0 : Int)))]) [[(.seq (.int .i8) (lf ls 6).nat ((lf ls 7).lst (.int .i8)))], [(.seq (.int .i8) (lf ls 8).nat ((lf ls 9).lst (.int .i8)))]] [[(.gro (.int .i8) y5)], [(.gro (.int .i8) y6)]])
def g50hd (G_g76 : {α : Type} → Nat → Nat → Nat → Nat → Nat → Nat → Nat → (List Int) → Nat → (List Int) → (Bool → Option α) → Option α)  : Hd where
  call := fun f args Bs k => cond (Nat.beq f 76) (rowK g76tp g76bp (g76K G_g76) args Bs k) (none)
  loop := fun id st k => none
  ro := fun f => cond (Nat.beq f 76) [0, 1, 2] ([])
def g50h (m : Nat) : Hd := g50hd (g76 m)
theorem g50Main (G_g76 : {α : Type} → Nat → Nat → Nat → Nat → Nat → Nat → Nat → (List Int) → Nat → (List Int) → (Bool → Option α) → Option α)  {α : Type} (ls : List Lf) (k : TV → List (List Seg) → List (List Seg) → Option α) :
    g50K (g50b G_g76) ls k = evFun tab (g50hd G_g76) Go.Proofs.Try.f50 (fillT g50tp ls).1 (fillB g50bp (fillT g50tp ls).2).1 k := by kernel_rfl
theorem g50Calls (m : Nat) : (g50h m).CallsOk Go.Proofs.Try.prog := (cok_cons (g76Ok m) cok_nil)
theorem g50Fn (m : Nat) : FnOk Go.Proofs.Try.prog 50 g50tp g50bp (fun {α} => g50K (g50 (α := α) m)) :=
  fn_ok (tab := tab) (h := g50h m) (fn := Go.Proofs.Try.f50) (F := fun {α} => g50K (g50 (α := α) m)) tabOk (g50Calls m) mixed (by kernel_rfl) (by kernel_rfl) (fun c hc => by
    rw [bodyOf_some hc]
    exact loopsOk_of _ (fun p hp => by rw [show loopsOf (bodyOf Go.Proofs.Try.f50) = [] by kernel_rfl] at hp; cases hp))
    (fun α ls k => g50Main (g76 m) ls k)
theorem g50Ok (m : Nat) : RowOk Go.Proofs.Try.prog 50 (fun {α} => rowK g50tp g50bp (g50K (g50 (α := α) m))) := row_of (g50Fn m)

/-! ### g84: slices.Clone[[]int8,int8] -/
def g84b {α : Type}   (m1047 : Nat) (m1048 : Nat) (m1049 : Nat) (m1050 : Nat) (u1051 : List Int) (k1053 : (List Int) → Option α) : Option α :=
  if m1047 + m1048 ≤ m1050 then
    let l1052 : List Int := List.take m1048 (List.drop m1047 u1051)
    if 0 + l1052.length ≤ 67108864 then
      k1053 l1052
    else
      none
  else
    none
def g84 {α : Type} (m : Nat) : Nat → Nat → Nat → Nat → (List Int) → ((List Int) → Option α) → Option α :=
  g84b
def g84tp : List TP := [(.vl (.sv (.slc 0 0 1)))]
def g84bp : List BP := [(false, [(.seqv (.int .i8))])]
def g84K {α : Type} (G : Nat → Nat → Nat → Nat → (List Int) → ((List Int) → Option α) → Option α) (ls : List Lf) (k : TV → List (List Seg) → List (List Seg) → Option α) : Option α :=
  G (lf ls 0).nat (lf ls 1).nat (lf ls 2).nat (lf ls 3).nat ((lf ls 4).lst (.int .i8))
    (fun y2 => k (.vl (.sv (.gsl 1 1))) [[(.seq (.int .i8) (lf ls 3).nat ((lf ls 4).lst (.int .i8)))]] [[(.gro (.int .i8) y2)]])
def g84hd   : Hd where
  call := fun f args Bs k => none
  loop := fun id st k => none
  ro := fun f => []
def g84h (m : Nat) : Hd := g84hd
theorem g84Main   {α : Type} (ls : List Lf) (k : TV → List (List Seg) → List (List Seg) → Option α) :
    g84K (g84b) ls k = evFun tab (g84hd) Go.Proofs.Try.f84 (fillT g84tp ls).1 (fillB g84bp (fillT g84tp ls).2).1 k := by kernel_rfl
theorem g84Calls (m : Nat) : (g84h m).CallsOk Go.Proofs.Try.prog := cok_nil
theorem g84Fn (m : Nat) : FnOk Go.Proofs.Try.prog 84 g84tp g84bp (fun {α} => g84K (g84 (α := α) m)) :=
  fn_ok (tab := tab) (h := g84h m) (fn := Go.Proofs.Try.f84) (F := fun {α} => g84K (g84 (α := α) m)) tabOk (g84Calls m) mixed (by kernel_rfl) (by kernel_rfl) (fun c hc => by
    rw [bodyOf_some hc]
    exact loopsOk_of _ (fun p hp => by rw [show loopsOf (bodyOf Go.Proofs.Try.f84) = [] by kernel_rfl] at hp; cases hp))
    (fun α ls k => g84Main ls k)
theorem g84Ok (m : Nat) : RowOk Go.Proofs.Try.prog 84 (fun {α} => rowK g84tp g84bp (g84K (g84 (α := α) m))) := row_of (g84Fn m)

/-! ### g51: impl.HalfStream -/
def g51b {α : Type} (G_g41 : {α : Type} → Nat → Nat → Nat → Nat → Nat → Nat → Nat → (List Int) → Nat → (List Int) → (Bool → Option α) → Option α) (G_g84 : {α : Type} → Nat → Nat → Nat → Nat → (List Int) → ((List Int) → Option α) → Option α)  (m1032 : Nat) (m1033 : Nat) (m1034 : Nat) (m1035 : Nat) (m1036 : Nat) (m1037 : Nat) (m1038 : Nat) (u1039 : List Int) (m1040 : Nat) (u1041 : List Int) (k1055 : Int → Option α) (k1056 : (List Int) → (List Int) → Option α) : Option α :=
  G_g41 m1032 m1033 m1034 m1035 m1036 m1037 m1038 u1039 m1040 u1041
    (fun b1042 =>
      cond (!b1042)
       (
        k1055 (1 : Int))
       (
        cond (((m1033 : Nat) : Int) == (16 : Int))
         (
          k1055 (3 : Int))
         (
          if m1032 + m1033 ≤ m1038 then
            let l1045 : List Int := List.take m1033 (List.drop m1032 u1039)
            if 1 + l1045.length ≤ 67108864 then
              G_g84 m1035 m1036 m1037 m1040 u1041
                (fun l1054 =>
                  k1056 ([(0 : Int)] ++ l1045) l1054)
            else
              none
          else
            none)))
def g51 {α : Type} (m : Nat) : Nat → Nat → Nat → Nat → Nat → Nat → Nat → (List Int) → Nat → (List Int) → (Int → Option α) → ((List Int) → (List Int) → Option α) → Option α :=
  g51b (g41 m) (g84 m)
def g51tp : List TP := [(.vl (.agg [(.one (.slc 0 0 1)), (.one (.slc 1 0 1))]))]
def g51bp : List BP := [(false, [(.seqv (.int .i8))]), (false, [(.seqv (.int .i8))])]
def g51K {α : Type} (G : Nat → Nat → Nat → Nat → Nat → Nat → Nat → (List Int) → Nat → (List Int) → (Int → Option α) → ((List Int) → (List Int) → Option α) → Option α) (ls : List Lf) (k : TV → List (List Seg) → List (List Seg) → Option α) : Option α :=
  G (lf ls 0).nat (lf ls 1).nat (lf ls 2).nat (lf ls 3).nat (lf ls 4).nat (lf ls 5).nat (lf ls 6).nat ((lf ls 7).lst (.int .i8)) (lf ls 8).nat ((lf ls 9).lst (.int .i8))
    (fun y0 => k (.tup [(.agg [(.one .nils), (.one .nils)]), (.sv (.int .i64 y0))]) [[(.seq (.int .i8) (lf ls 6).nat ((lf ls 7).lst (.int .i8)))], [(.seq (.int .i8) (lf ls 8).nat ((lf ls 9).lst (.int .i8)))]] [])
    (fun y5 y6 => k (.tup [(.agg [(.one (.gsl 2 1)), (.one (.gsl 3 1))]), (.sv (.int .i64 (0 : Int)))]) [[(.seq (.int .i8) (lf ls 6).nat ((lf ls 7).lst (.int .i8)))], [(.seq (.int .i8) (lf ls 8).nat ((lf ls 9).lst (.int .i8)))]] [[(.gro (.int .i8) y5)], [(.gro (.int .i8) y6)]])
def g51hd (G_g41 : {α : Type} → Nat → Nat → Nat → Nat → Nat → Nat → Nat → (List Int) → Nat → (List Int) → (Bool → Option α) → Option α) (G_g84 : {α : Type} → Nat → Nat → Nat → Nat → (List Int) → ((List Int) → Option α) → Option α)  : Hd where
  call := fun f args Bs k => cond (Nat.beq f 41) (rowK g41tp g41bp (g41K G_g41) args Bs k) (cond (Nat.beq f 84) (rowK g84tp g84bp (g84K G_g84) args Bs k) (none))
  loop := fun id st k => none
  ro := fun f => cond (Nat.beq f 41) [0, 1] (cond (Nat.beq f 84) [0] ([]))
def g51h (m : Nat) : Hd := g51hd (g41 m) (g84 m)
theorem g51Main (G_g41 : {α : Type} → Nat → Nat → Nat → Nat → Nat → Nat → Nat → (List Int) → Nat → (List Int) → (Bool → Option α) → Option α) (G_g84 : {α : Type} → Nat → Nat → Nat → Nat → (List Int) → ((List Int) → Option α) → Option α)  {α : Type} (ls : List Lf) (k : TV → List (List Seg) → List (List Seg) → Option α) :
    g51K (g51b G_g41 G_g84) ls k = evFun tab (g51hd G_g41 G_g84) Go.Proofs.Try.f51 (fillT g51tp ls).1 (fillB g51bp (fillT g51tp ls).2).1 k := by kernel_rfl
theorem g51Calls (m : Nat) : (g51h m).CallsOk Go.Proofs.Try.prog := (cok_cons (g41Ok m) (cok_cons (g84Ok m) cok_nil))
theorem g51Fn (m : Nat) : FnOk Go.Proofs.Try.prog 51 g51tp g51bp (fun {α} => g51K (g51 (α := α) m)) :=
  fn_ok (tab := tab) (h := g51h m) (fn := Go.Proofs.Try.f51) (F := fun {α} => g51K (g51 (α := α) m)) tabOk (g51Calls m) mixed (by kernel_rfl) (by kernel_rfl) (fun c hc => by
    rw [bodyOf_some hc]
    exact loopsOk_of _ (fun p hp => by rw [show loopsOf (bodyOf Go.Proofs.Try.f51) = [] by kernel_rfl] at hp; cases hp))
    (fun α ls k => g51Main (g41 m) (g84 m) ls k)
theorem g51Ok (m : Nat) : RowOk Go.Proofs.Try.prog 51 (fun {α} => rowK g51tp g51bp (g51K (g51 (α := α) m))) := row_of (g51Fn m)

/-! ### g54v5: laws.eqInt8S -/
def g54v5l0b {α : Type}   (v1084 : Int) (a1085 : List Int) (k1088 : Option α) (r1089 : Option α)  : Option α :=
  cond (decide (v1084 < ((a1085.length : Nat) : Int)))
   (
    if 0 ≤ v1084 ∧ v1084 < (a1085.length : Nat) then
      if v1084.toNat < a1085.length then
        none
      else
        none
    else
      none)
   (
    k1088)
def g54v5l0 {α : Type}   (v1084 : Int) (a1085 : List Int) (k1088 : Option α) : Nat → Option α
  | 0 => none
  | m + 1 => g54v5l0b v1084 a1085 k1088 (g54v5l0 v1084 a1085 k1088 m)
def g54v5l0M {α : Type} (m : Nat) : Int → (List Int) → (Option α) → Option α :=
  fun v1084 a1085 k1088  => g54v5l0 v1084 a1085 k1088 m 
def g54v5l0D : LoopD := { n := 26, low := [0], sl := [0, 1, 5], bl := [0], tp := [(.vl (.sv (.gsl 0 1))), (.vl (.sv .nils)), (.vl (.sv (.int .i64)))], bp := [(false, [(.gro (.int .i8))])], xs := [(2, [])] }
def g54v5l0K {α : Type} (L : Int → (List Int) → (Option α) → Option α) (ls : List Lf) (k : Ex → St → Option α) : Option α :=
  L (lf ls 0).int ((lf ls 1).lst (.int .i8))
    (k .normal (mkSt 26 [] [] [0] [(false, [(.gro (.int .i8) ((lf ls 1).lst (.int .i8)))])]))
    
def g54v5b {α : Type}  (L_g54v5l0 : {α : Type} → Int → (List Int) → (Option α) → Option α) (u1082 : List Int) (k1090 : Bool → Option α) : Option α :=
  cond (((u1082.length : Nat) : Int) != (0 : Int))
   (
    k1090 false)
   (
    L_g54v5l0 (0 : Int) u1082
      (
        k1090 true))
def g54v5 {α : Type} (m : Nat) : (List Int) → (Bool → Option α) → Option α :=
  g54v5b (g54v5l0M m)
def g54v5tp : List TP := [(.vl (.sv (.gsl 0 1))), (.vl (.sv .nils))]
def g54v5bp : List BP := [(false, [(.gro (.int .i8))])]
def g54v5K {α : Type} (G : (List Int) → (Bool → Option α) → Option α) (ls : List Lf) (k : TV → List (List Seg) → List (List Seg) → Option α) : Option α :=
  G ((lf ls 0).lst (.int .i8))
    (fun y0 => k (.vl (.sv (.bool y0))) [[(.gro (.int .i8) ((lf ls 0).lst (.int .i8)))]] [])
def g54v5hd  (L_g54v5l0 : {α : Type} → Int → (List Int) → (Option α) → Option α) : Hd where
  call := fun f args Bs k => none
  loop := fun id st k => cond (Nat.beq id 0) (loopH g54v5l0D (g54v5l0K L_g54v5l0) st k) (none)
  ro := fun f => []
def g54v5h (m : Nat) : Hd := g54v5hd (g54v5l0M m)
theorem g54v5l0Step  (L_g54v5l0 : {α : Type} → Int → (List Int) → (Option α) → Option α) {α : Type} (L : Int → (List Int) → (Option α) → Option α) (ls : List Lf) (k : Ex → St → Option α) :
    g54v5l0K (fun v1084 a1085 k1088 => g54v5l0b v1084 a1085 k1088 (L v1084 a1085 k1088) ) ls k = ev tab (g54v5hd L_g54v5l0) (bodyAt Go.Proofs.Try.f54 0) (atHead g54v5l0D ls) (loopK g54v5l0D 0 (loopH g54v5l0D (g54v5l0K L)) k) := by kernel_rfl
theorem g54v5Main  (L_g54v5l0 : {α : Type} → Int → (List Int) → (Option α) → Option α) {α : Type} (ls : List Lf) (k : TV → List (List Seg) → List (List Seg) → Option α) :
    g54v5K (g54v5b L_g54v5l0) ls k = evFun tab (g54v5hd L_g54v5l0) Go.Proofs.Try.f54 (fillT g54v5tp ls).1 (fillB g54v5bp (fillT g54v5tp ls).2).1 k := by kernel_rfl
theorem g54v5Calls (m : Nat) : (g54v5h m).CallsOk Go.Proofs.Try.prog := cok_nil
theorem g54v5l0Ok (m : Nat) (α : Type) (st : St) (k : Ex → St → Option α) (r : α) (h : (g54v5h m).loop 0 st k = some r) :
    ∃ e st', k e st' = some r ∧ CodeS Go.Proofs.Try.prog (.block 0 (.loop (bodyAt Go.Proofs.Try.f54 0))) st e st' :=
  loop_ok (tab := tab) (h := g54v5h m) (F := fun n ls k => g54v5l0K (fun v1084 a1085 k1088 => g54v5l0 v1084 a1085 k1088 n ) ls k) tabOk (g54v5Calls m) mixed (loopsOk_of _ (fun p hp => by rw [show loopsOf (bodyAt Go.Proofs.Try.f54 0) = [] by kernel_rfl] at hp; cases hp))
    (fun _ _ => rfl) (fun n ls k => g54v5l0Step (g54v5l0M m) (fun v1084 a1085 k1088 => g54v5l0 v1084 a1085 k1088 n) ls k) (n := m) h
theorem g54v5Fn (m : Nat) : FnOk Go.Proofs.Try.prog 54 g54v5tp g54v5bp (fun {α} => g54v5K (g54v5 (α := α) m)) :=
  fn_ok (tab := tab) (h := g54v5h m) (fn := Go.Proofs.Try.f54) (F := fun {α} => g54v5K (g54v5 (α := α) m)) tabOk (g54v5Calls m) mixed (by kernel_rfl) (by kernel_rfl) (fun c hc => by
    rw [bodyOf_some hc]
    exact loopsOk_of _ (fun p hp => by
    rw [show loopsOf (bodyOf Go.Proofs.Try.f54) = [(0, bodyAt Go.Proofs.Try.f54 0)] by kernel_rfl] at hp
    simp only [List.mem_cons, List.not_mem_nil, or_false] at hp
    rcases hp with rfl
    exact g54v5l0Ok m))
    (fun α ls k => g54v5Main (g54v5l0M m) ls k)
theorem g54v5Ok (m : Nat) : RowOk Go.Proofs.Try.prog 54 (fun {α} => rowK g54v5tp g54v5bp (g54v5K (g54v5 (α := α) m))) := row_of (g54v5Fn m)

/-! ### g39v5: laws.eqStream -/
def g39v5b {α : Type} (G_g54v5 : {α : Type} → (List Int) → (Bool → Option α) → Option α)  (u1080 : List Int) (u1081 : List Int) (k1095 : Bool → Option α) : Option α :=
  G_g54v5 u1080
    (fun b1091 =>
      cond (!b1091)
       (
        k1095 false)
       (
        G_g54v5 u1081
          (fun b1093 =>
            cond (!b1093)
             (
              k1095 false)
             (
              k1095 true))))
def g39v5 {α : Type} (m : Nat) : (List Int) → (List Int) → (Bool → Option α) → Option α :=
  g39v5b (g54v5 m)
def g39v5tp : List TP := [(.vl (.agg [(.one (.gsl 0 1)), (.one (.gsl 1 1))])), (.vl (.agg [(.one .nils), (.one .nils)]))]
def g39v5bp : List BP := [(false, [(.gro (.int .i8))]), (false, [(.gro (.int .i8))])]
def g39v5K {α : Type} (G : (List Int) → (List Int) → (Bool → Option α) → Option α) (ls : List Lf) (k : TV → List (List Seg) → List (List Seg) → Option α) : Option α :=
  G ((lf ls 0).lst (.int .i8)) ((lf ls 1).lst (.int .i8))
    (fun y0 => k (.vl (.sv (.bool y0))) [[(.gro (.int .i8) ((lf ls 0).lst (.int .i8)))], [(.gro (.int .i8) ((lf ls 1).lst (.int .i8)))]] [])
def g39v5hd (G_g54v5 : {α : Type} → (List Int) → (Bool → Option α) → Option α)  : Hd where
  call := fun f args Bs k => cond (Nat.beq f 54) (rowK g54v5tp g54v5bp (g54v5K G_g54v5) args Bs k) (none)
  loop := fun id st k => none
  ro := fun f => cond (Nat.beq f 54) [0] ([])
def g39v5h (m : Nat) : Hd := g39v5hd (g54v5 m)
theorem g39v5Main (G_g54v5 : {α : Type} → (List Int) → (Bool → Option α) → Option α)  {α : Type} (ls : List Lf) (k : TV → List (List Seg) → List (List Seg) → Option α) :
    g39v5K (g39v5b G_g54v5) ls k = evFun tab (g39v5hd G_g54v5) Go.Proofs.Try.f39 (fillT g39v5tp ls).1 (fillB g39v5bp (fillT g39v5tp ls).2).1 k := by kernel_rfl
theorem g39v5Calls (m : Nat) : (g39v5h m).CallsOk Go.Proofs.Try.prog := (cok_cons (g54v5Ok m) cok_nil)
theorem g39v5Fn (m : Nat) : FnOk Go.Proofs.Try.prog 39 g39v5tp g39v5bp (fun {α} => g39v5K (g39v5 (α := α) m)) :=
  fn_ok (tab := tab) (h := g39v5h m) (fn := Go.Proofs.Try.f39) (F := fun {α} => g39v5K (g39v5 (α := α) m)) tabOk (g39v5Calls m) mixed (by kernel_rfl) (by kernel_rfl) (fun c hc => by
    rw [bodyOf_some hc]
    exact loopsOk_of _ (fun p hp => by rw [show loopsOf (bodyOf Go.Proofs.Try.f39) = [] by kernel_rfl] at hp; cases hp))
    (fun α ls k => g39v5Main (g54v5 m) ls k)
theorem g39v5Ok (m : Nat) : RowOk Go.Proofs.Try.prog 39 (fun {α} => rowK g39v5tp g39v5bp (g39v5K (g39v5 (α := α) m))) := row_of (g39v5Fn m)

/-! ### g55v2: laws.markInt8S -/
def g55v2l0b {α : Type}    (k1131 : Int → (List Int) → Option α) (r1132 : Int → Int → (List Int) → Option α) (v1123 : Int) (v1124 : Int) (a1125 : List Int) : Option α :=
  cond (decide (v1124 < ((a1125.length : Nat) : Int)))
   (
    if 0 ≤ v1124 ∧ v1124 < (a1125.length : Nat) then
      if v1124.toNat < a1125.length then
        r1132 (IntKind.wrap .i64 (v1123 + (1 : Int))) (IntKind.wrap .i64 (v1124 + (1 : Int))) (List.set a1125 (v1124.toNat) (IntKind.wrap .i8 v1123))
      else
        none
    else
      none)
   (
    k1131 v1123 a1125)
def g55v2l0 {α : Type}    (k1131 : Int → (List Int) → Option α) : Nat → Int → Int → (List Int) → Option α
  | 0 => fun _ _ _ => none
  | m + 1 => fun v1123 v1124 a1125 => g55v2l0b  k1131 (g55v2l0  k1131 m) v1123 v1124 a1125
def g55v2l0M {α : Type} (m : Nat) : (Int → (List Int) → Option α) → Int → Int → (List Int) → Option α :=
  fun  k1131 v1123 v1124 a1125 => g55v2l0  k1131 m v1123 v1124 a1125
def g55v2l0D : LoopD := { n := 20, low := [0], sl := [0, 1, 5], bl := [0], tp := [(.vl (.sv (.gsl 0 1))), (.vl (.sv (.int .i64))), (.vl (.sv (.int .i64)))], bp := [(true, [(.gro (.int .i8))])], xs := [(2, [1])] }
def g55v2l0K {α : Type} (L : (Int → (List Int) → Option α) → Int → Int → (List Int) → Option α) (ls : List Lf) (k : Ex → St → Option α) : Option α :=
  L 
    (fun y0 y1 => k .normal (mkSt 20 [1] [(.vl (.sv (.int .i64 y0)))] [0] [(true, [(.gro (.int .i8) y1)])]))
    (lf ls 0).int (lf ls 1).int ((lf ls 2).lst (.int .i8))
def g55v2b {α : Type}  (L_g55v2l0 : {α : Type} → (Int → (List Int) → Option α) → Int → Int → (List Int) → Option α) (p1121 : Int) (u1122 : List Int) (k1135 : Int → (List Int) → Option α) : Option α :=
  L_g55v2l0
    (fun x1133 l1134 =>
      k1135 x1133 l1134)
    p1121 (0 : Int) u1122
def g55v2 {α : Type} (m : Nat) : Int → (List Int) → (Int → (List Int) → Option α) → Option α :=
  g55v2b (g55v2l0M m)
def g55v2tp : List TP := [(.vl (.sv (.gsl 0 1))), (.vl (.sv (.int .i64)))]
def g55v2bp : List BP := [(true, [(.gro (.int .i8))])]
def g55v2K {α : Type} (G : Int → (List Int) → (Int → (List Int) → Option α) → Option α) (ls : List Lf) (k : TV → List (List Seg) → List (List Seg) → Option α) : Option α :=
  G (lf ls 0).int ((lf ls 1).lst (.int .i8))
    (fun y0 y1 => k (.vl (.sv (.int .i64 y0))) [[(.gro (.int .i8) y1)]] [])
def g55v2hd  (L_g55v2l0 : {α : Type} → (Int → (List Int) → Option α) → Int → Int → (List Int) → Option α) : Hd where
  call := fun f args Bs k => none
  loop := fun id st k => cond (Nat.beq id 0) (loopH g55v2l0D (g55v2l0K L_g55v2l0) st k) (none)
  ro := fun f => []
def g55v2h (m : Nat) : Hd := g55v2hd (g55v2l0M m)
theorem g55v2l0Step  (L_g55v2l0 : {α : Type} → (Int → (List Int) → Option α) → Int → Int → (List Int) → Option α) {α : Type} (L : (Int → (List Int) → Option α) → Int → Int → (List Int) → Option α) (ls : List Lf) (k : Ex → St → Option α) :
    g55v2l0K (fun k1131 v1123 v1124 a1125 => g55v2l0b k1131 (L k1131) v1123 v1124 a1125) ls k = ev tab (g55v2hd L_g55v2l0) (bodyAt Go.Proofs.Try.f55 0) (atHead g55v2l0D ls) (loopK g55v2l0D 0 (loopH g55v2l0D (g55v2l0K L)) k) := by kernel_rfl
theorem g55v2Main  (L_g55v2l0 : {α : Type} → (Int → (List Int) → Option α) → Int → Int → (List Int) → Option α) {α : Type} (ls : List Lf) (k : TV → List (List Seg) → List (List Seg) → Option α) :
    g55v2K (g55v2b L_g55v2l0) ls k = evFun tab (g55v2hd L_g55v2l0) Go.Proofs.Try.f55 (fillT g55v2tp ls).1 (fillB g55v2bp (fillT g55v2tp ls).2).1 k := by kernel_rfl
theorem g55v2Calls (m : Nat) : (g55v2h m).CallsOk Go.Proofs.Try.prog := cok_nil
theorem g55v2l0Ok (m : Nat) (α : Type) (st : St) (k : Ex → St → Option α) (r : α) (h : (g55v2h m).loop 0 st k = some r) :
    ∃ e st', k e st' = some r ∧ CodeS Go.Proofs.Try.prog (.block 0 (.loop (bodyAt Go.Proofs.Try.f55 0))) st e st' :=
  loop_ok (tab := tab) (h := g55v2h m) (F := fun n ls k => g55v2l0K (fun k1131 v1123 v1124 a1125 => g55v2l0 k1131 n v1123 v1124 a1125) ls k) tabOk (g55v2Calls m) mixed (loopsOk_of _ (fun p hp => by rw [show loopsOf (bodyAt Go.Proofs.Try.f55 0) = [] by kernel_rfl] at hp; cases hp))
    (fun _ _ => rfl) (fun n ls k => g55v2l0Step (g55v2l0M m) (fun k1131 => g55v2l0 k1131 n) ls k) (n := m) h
theorem g55v2Fn (m : Nat) : FnOk Go.Proofs.Try.prog 55 g55v2tp g55v2bp (fun {α} => g55v2K (g55v2 (α := α) m)) :=
  fn_ok (tab := tab) (h := g55v2h m) (fn := Go.Proofs.Try.f55) (F := fun {α} => g55v2K (g55v2 (α := α) m)) tabOk (g55v2Calls m) mixed (by kernel_rfl) (by kernel_rfl) (fun c hc => by
    rw [bodyOf_some hc]
    exact loopsOk_of _ (fun p hp => by
    rw [show loopsOf (bodyOf Go.Proofs.Try.f55) = [(0, bodyAt Go.Proofs.Try.f55 0)] by kernel_rfl] at hp
    simp only [List.mem_cons, List.not_mem_nil, or_false] at hp
    rcases hp with rfl
    exact g55v2l0Ok m))
    (fun α ls k => g55v2Main (g55v2l0M m) ls k)
theorem g55v2Ok (m : Nat) : RowOk Go.Proofs.Try.prog 55 (fun {α} => rowK g55v2tp g55v2bp (g55v2K (g55v2 (α := α) m))) := row_of (g55v2Fn m)

/-! ### g48v2: laws.markStream -/
def g48v2b {α : Type} (G_g55v2 : {α : Type} → Int → (List Int) → (Int → (List Int) → Option α) → Option α)  (p1118 : Int) (u1119 : List Int) (u1120 : List Int) (k1140 : Int → (List Int) → (List Int) → Option α) : Option α :=
  G_g55v2 p1118 u1119
    (fun x1136 l1137 =>
      G_g55v2 x1136 u1120
        (fun x1138 l1139 =>
          k1140 x1138 l1137 l1139))
def g48v2 {α : Type} (m : Nat) : Int → (List Int) → (List Int) → (Int → (List Int) → (List Int) → Option α) → Option α :=
  g48v2b (g55v2 m)
def g48v2tp : List TP := [(.vl (.agg [(.one (.gsl 0 1)), (.one (.gsl 1 1))])), (.vl (.sv (.int .i64)))]
def g48v2bp : List BP := [(true, [(.gro (.int .i8))]), (true, [(.gro (.int .i8))])]
def g48v2K {α : Type} (G : Int → (List Int) → (List Int) → (Int → (List Int) → (List Int) → Option α) → Option α) (ls : List Lf) (k : TV → List (List Seg) → List (List Seg) → Option α) : Option α :=
  G (lf ls 0).int ((lf ls 1).lst (.int .i8)) ((lf ls 2).lst (.int .i8))
    (fun y0 y1 y2 => k (.vl (.sv (.int .i64 y0))) [[(.gro (.int .i8) y1)], [(.gro (.int .i8) y2)]] [])
def g48v2hd (G_g55v2 : {α : Type} → Int → (List Int) → (Int → (List Int) → Option α) → Option α)  : Hd where
  call := fun f args Bs k => cond (Nat.beq f 55) (rowK g55v2tp g55v2bp (g55v2K G_g55v2) args Bs k) (none)
  loop := fun id st k => none
  ro := fun f => []
def g48v2h (m : Nat) : Hd := g48v2hd (g55v2 m)
theorem g48v2Main (G_g55v2 : {α : Type} → Int → (List Int) → (Int → (List Int) → Option α) → Option α)  {α : Type} (ls : List Lf) (k : TV → List (List Seg) → List (List Seg) → Option α) :
    g48v2K (g48v2b G_g55v2) ls k = evFun tab (g48v2hd G_g55v2) Go.Proofs.Try.f48 (fillT g48v2tp ls).1 (fillB g48v2bp (fillT g48v2tp ls).2).1 k := by kernel_rfl
theorem g48v2Calls (m : Nat) : (g48v2h m).CallsOk Go.Proofs.Try.prog := (cok_cons (g55v2Ok m) cok_nil)
theorem g48v2Fn (m : Nat) : FnOk Go.Proofs.Try.prog 48 g48v2tp g48v2bp (fun {α} => g48v2K (g48v2 (α := α) m)) :=
  fn_ok (tab := tab) (h := g48v2h m) (fn := Go.Proofs.Try.f48) (F := fun {α} => g48v2K (g48v2 (α := α) m)) tabOk (g48v2Calls m) mixed (by kernel_rfl) (by kernel_rfl) (fun c hc => by
    rw [bodyOf_some hc]
    exact loopsOk_of _ (fun p hp => by rw [show loopsOf (bodyOf Go.Proofs.Try.f48) = [] by kernel_rfl] at hp; cases hp))
    (fun α ls k => g48v2Main (g55v2 m) ls k)
theorem g48v2Ok (m : Nat) : RowOk Go.Proofs.Try.prog 48 (fun {α} => rowK g48v2tp g48v2bp (g48v2K (g48v2 (α := α) m))) := row_of (g48v2Fn m)

/-! ### g56v2: laws.heldInt8S -/
def g56v2l0b {α : Type}   (a1151 : List Int) (k1158 : Option α) (k1159 : Int → Option α) (r1160 : Int → Int → Option α) (v1149 : Int) (v1150 : Int) : Option α :=
  cond (decide (v1150 < ((a1151.length : Nat) : Int)))
   (
    if 0 ≤ v1150 ∧ v1150 < (a1151.length : Nat) then
      if v1150.toNat < a1151.length then
        cond ((List.getD a1151 v1150.toNat 0) != (IntKind.wrap .i8 v1149))
         (
          k1158)
         (
          r1160 (IntKind.wrap .i64 (v1149 + (1 : Int))) (IntKind.wrap .i64 (v1150 + (1 : Int))))
      else
        none
    else
      none)
   (
    k1159 v1149)
def g56v2l0 {α : Type}   (a1151 : List Int) (k1158 : Option α) (k1159 : Int → Option α) : Nat → Int → Int → Option α
  | 0 => fun _ _ => none
  | m + 1 => fun v1149 v1150 => g56v2l0b a1151 k1158 k1159 (g56v2l0 a1151 k1158 k1159 m) v1149 v1150
def g56v2l0M {α : Type} (m : Nat) : (List Int) → (Option α) → (Int → Option α) → Int → Int → Option α :=
  fun a1151 k1158 k1159 v1149 v1150 => g56v2l0 a1151 k1158 k1159 m v1149 v1150
def g56v2l0D : LoopD := { n := 22, low := [0], sl := [0, 1, 5], bl := [0], tp := [(.vl (.sv (.gsl 0 1))), (.vl (.sv (.int .i64))), (.vl (.sv (.int .i64)))], bp := [(false, [(.gro (.int .i8))])], xs := [(1, [4]), (2, [1])] }
def g56v2l0K {α : Type} (L : (List Int) → (Option α) → (Int → Option α) → Int → Int → Option α) (ls : List Lf) (k : Ex → St → Option α) : Option α :=
  L ((lf ls 2).lst (.int .i8))
    (k .ret (mkSt 22 [4] [(.vl (.sv (.int .i64 (-1 : Int))))] [0] [(false, [(.gro (.int .i8) ((lf ls 2).lst (.int .i8)))])]))
    (fun y0 => k .normal (mkSt 22 [1] [(.vl (.sv (.int .i64 y0)))] [0] [(false, [(.gro (.int .i8) ((lf ls 2).lst (.int .i8)))])]))
    (lf ls 0).int (lf ls 1).int
def g56v2b {α : Type}  (L_g56v2l0 : {α : Type} → (List Int) → (Option α) → (Int → Option α) → Int → Int → Option α) (p1147 : Int) (u1148 : List Int) (k1162 : Int → Option α) : Option α :=
  L_g56v2l0 u1148
    (
      k1162 (-1 : Int))
    (fun x1161 =>
      k1162 x1161)
    p1147 (0 : Int)
def g56v2 {α : Type} (m : Nat) : Int → (List Int) → (Int → Option α) → Option α :=
  g56v2b (g56v2l0M m)
def g56v2tp : List TP := [(.vl (.sv (.gsl 0 1))), (.vl (.sv (.int .i64)))]
def g56v2bp : List BP := [(false, [(.gro (.int .i8))])]
def g56v2K {α : Type} (G : Int → (List Int) → (Int → Option α) → Option α) (ls : List Lf) (k : TV → List (List Seg) → List (List Seg) → Option α) : Option α :=
  G (lf ls 0).int ((lf ls 1).lst (.int .i8))
    (fun y0 => k (.vl (.sv (.int .i64 y0))) [[(.gro (.int .i8) ((lf ls 1).lst (.int .i8)))]] [])
def g56v2hd  (L_g56v2l0 : {α : Type} → (List Int) → (Option α) → (Int → Option α) → Int → Int → Option α) : Hd where
  call := fun f args Bs k => none
  loop := fun id st k => cond (Nat.beq id 0) (loopH g56v2l0D (g56v2l0K L_g56v2l0) st k) (none)
  ro := fun f => []
def g56v2h (m : Nat) : Hd := g56v2hd (g56v2l0M m)
theorem g56v2l0Step  (L_g56v2l0 : {α : Type} → (List Int) → (Option α) → (Int → Option α) → Int → Int → Option α) {α : Type} (L : (List Int) → (Option α) → (Int → Option α) → Int → Int → Option α) (ls : List Lf) (k : Ex → St → Option α) :
    g56v2l0K (fun a1151 k1158 k1159 v1149 v1150 => g56v2l0b a1151 k1158 k1159 (L a1151 k1158 k1159) v1149 v1150) ls k = ev tab (g56v2hd L_g56v2l0) (bodyAt Go.Proofs.Try.f56 0) (atHead g56v2l0D ls) (loopK g56v2l0D 0 (loopH g56v2l0D (g56v2l0K L)) k) := by kernel_rfl
theorem g56v2Main  (L_g56v2l0 : {α : Type} → (List Int) → (Option α) → (Int → Option α) → Int → Int → Option α) {α : Type} (ls : List Lf) (k : TV → List (List Seg) → List (List Seg) → Option α) :
    g56v2K (g56v2b L_g56v2l0) ls k = evFun tab (g56v2hd L_g56v2l0) Go.Proofs.Try.f56 (fillT g56v2tp ls).1 (fillB g56v2bp (fillT g56v2tp ls).2).1 k := by kernel_rfl
theorem g56v2Calls (m : Nat) : (g56v2h m).CallsOk Go.Proofs.Try.prog := cok_nil
theorem g56v2l0Ok (m : Nat) (α : Type) (st : St) (k : Ex → St → Option α) (r : α) (h : (g56v2h m).loop 0 st k = some r) :
    ∃ e st', k e st' = some r ∧ CodeS Go.Proofs.Try.prog (.block 0 (.loop (bodyAt Go.Proofs.Try.f56 0))) st e st' :=
  loop_ok (tab := tab) (h := g56v2h m) (F := fun n ls k => g56v2l0K (fun a1151 k1158 k1159 v1149 v1150 => g56v2l0 a1151 k1158 k1159 n v1149 v1150) ls k) tabOk (g56v2Calls m) mixed (loopsOk_of _ (fun p hp => by rw [show loopsOf (bodyAt Go.Proofs.Try.f56 0) = [] by kernel_rfl] at hp; cases hp))
    (fun _ _ => rfl) (fun n ls k => g56v2l0Step (g56v2l0M m) (fun a1151 k1158 k1159 => g56v2l0 a1151 k1158 k1159 n) ls k) (n := m) h
theorem g56v2Fn (m : Nat) : FnOk Go.Proofs.Try.prog 56 g56v2tp g56v2bp (fun {α} => g56v2K (g56v2 (α := α) m)) :=
  fn_ok (tab := tab) (h := g56v2h m) (fn := Go.Proofs.Try.f56) (F := fun {α} => g56v2K (g56v2 (α := α) m)) tabOk (g56v2Calls m) mixed (by kernel_rfl) (by kernel_rfl) (fun c hc => by
    rw [bodyOf_some hc]
    exact loopsOk_of _ (fun p hp => by
    rw [show loopsOf (bodyOf Go.Proofs.Try.f56) = [(0, bodyAt Go.Proofs.Try.f56 0)] by kernel_rfl] at hp
    simp only [List.mem_cons, List.not_mem_nil, or_false] at hp
    rcases hp with rfl
    exact g56v2l0Ok m))
    (fun α ls k => g56v2Main (g56v2l0M m) ls k)
theorem g56v2Ok (m : Nat) : RowOk Go.Proofs.Try.prog 56 (fun {α} => rowK g56v2tp g56v2bp (g56v2K (g56v2 (α := α) m))) := row_of (g56v2Fn m)

/-! ### g49v2: laws.heldStream -/
def g49v2b {α : Type} (G_g56v2 : {α : Type} → Int → (List Int) → (Int → Option α) → Option α)  (p1144 : Int) (u1145 : List Int) (u1146 : List Int) (k1167 : Int → Option α) : Option α :=
  G_g56v2 p1144 u1145
    (fun x1163 =>
      cond (decide (x1163 < (0 : Int)))
       (
        k1167 (-1 : Int))
       (
        G_g56v2 x1163 u1146
          (fun x1165 =>
            cond (decide (x1165 < (0 : Int)))
             (
              k1167 (-1 : Int))
             (
              k1167 x1165))))
def g49v2 {α : Type} (m : Nat) : Int → (List Int) → (List Int) → (Int → Option α) → Option α :=
  g49v2b (g56v2 m)
def g49v2tp : List TP := [(.vl (.agg [(.one (.gsl 0 1)), (.one (.gsl 1 1))])), (.vl (.sv (.int .i64)))]
def g49v2bp : List BP := [(false, [(.gro (.int .i8))]), (false, [(.gro (.int .i8))])]
def g49v2K {α : Type} (G : Int → (List Int) → (List Int) → (Int → Option α) → Option α) (ls : List Lf) (k : TV → List (List Seg) → List (List Seg) → Option α) : Option α :=
  G (lf ls 0).int ((lf ls 1).lst (.int .i8)) ((lf ls 2).lst (.int .i8))
    (fun y0 => k (.vl (.sv (.int .i64 y0))) [[(.gro (.int .i8) ((lf ls 1).lst (.int .i8)))], [(.gro (.int .i8) ((lf ls 2).lst (.int .i8)))]] [])
def g49v2hd (G_g56v2 : {α : Type} → Int → (List Int) → (Int → Option α) → Option α)  : Hd where
  call := fun f args Bs k => cond (Nat.beq f 56) (rowK g56v2tp g56v2bp (g56v2K G_g56v2) args Bs k) (none)
  loop := fun id st k => none
  ro := fun f => cond (Nat.beq f 56) [0] ([])
def g49v2h (m : Nat) : Hd := g49v2hd (g56v2 m)
theorem g49v2Main (G_g56v2 : {α : Type} → Int → (List Int) → (Int → Option α) → Option α)  {α : Type} (ls : List Lf) (k : TV → List (List Seg) → List (List Seg) → Option α) :
    g49v2K (g49v2b G_g56v2) ls k = evFun tab (g49v2hd G_g56v2) Go.Proofs.Try.f49 (fillT g49v2tp ls).1 (fillB g49v2bp (fillT g49v2tp ls).2).1 k := by kernel_rfl
theorem g49v2Calls (m : Nat) : (g49v2h m).CallsOk Go.Proofs.Try.prog := (cok_cons (g56v2Ok m) cok_nil)
theorem g49v2Fn (m : Nat) : FnOk Go.Proofs.Try.prog 49 g49v2tp g49v2bp (fun {α} => g49v2K (g49v2 (α := α) m)) :=
  fn_ok (tab := tab) (h := g49v2h m) (fn := Go.Proofs.Try.f49) (F := fun {α} => g49v2K (g49v2 (α := α) m)) tabOk (g49v2Calls m) mixed (by kernel_rfl) (by kernel_rfl) (fun c hc => by
    rw [bodyOf_some hc]
    exact loopsOk_of _ (fun p hp => by rw [show loopsOf (bodyOf Go.Proofs.Try.f49) = [] by kernel_rfl] at hp; cases hp))
    (fun α ls k => g49v2Main (g56v2 m) ls k)
theorem g49v2Ok (m : Nat) : RowOk Go.Proofs.Try.prog 49 (fun {α} => rowK g49v2tp g49v2bp (g49v2K (g49v2 (α := α) m))) := row_of (g49v2Fn m)

/-! ### g54v6: laws.eqInt8S -/
def g54v6l0b {α : Type}   (a1227 : List Int) (a1228 : List Int) (k1234 : Option α) (k1235 : Option α) (r1236 : Int → Option α) (v1226 : Int) : Option α :=
  cond (decide (v1226 < ((a1227.length : Nat) : Int)))
   (
    if 0 ≤ v1226 ∧ v1226 < (a1227.length : Nat) then
      if v1226.toNat < a1227.length then
        if 0 ≤ v1226 ∧ v1226 < (a1228.length : Nat) then
          if v1226.toNat < a1228.length then
            cond ((List.getD a1227 v1226.toNat 0) != (List.getD a1228 v1226.toNat 0))
             (
              k1234)
             (
              r1236 (IntKind.wrap .i64 (v1226 + (1 : Int))))
          else
            none
        else
          none
      else
        none
    else
      none)
   (
    k1235)
def g54v6l0 {α : Type}   (a1227 : List Int) (a1228 : List Int) (k1234 : Option α) (k1235 : Option α) : Nat → Int → Option α
  | 0 => fun _ => none
  | m + 1 => fun v1226 => g54v6l0b a1227 a1228 k1234 k1235 (g54v6l0 a1227 a1228 k1234 k1235 m) v1226
def g54v6l0M {α : Type} (m : Nat) : (List Int) → (List Int) → (Option α) → (Option α) → Int → Option α :=
  fun a1227 a1228 k1234 k1235 v1226 => g54v6l0 a1227 a1228 k1234 k1235 m v1226
def g54v6l0D : LoopD := { n := 26, low := [0, 1], sl := [0, 1, 5], bl := [0, 1], tp := [(.vl (.sv (.gsl 0 1))), (.vl (.sv (.gsl 1 1))), (.vl (.sv (.int .i64)))], bp := [(false, [(.gro (.int .i8))]), (false, [(.gro (.int .i8))])], xs := [(1, [4]), (2, [])] }
def g54v6l0K {α : Type} (L : (List Int) → (List Int) → (Option α) → (Option α) → Int → Option α) (ls : List Lf) (k : Ex → St → Option α) : Option α :=
  L ((lf ls 1).lst (.int .i8)) ((lf ls 2).lst (.int .i8))
    (k .ret (mkSt 26 [4] [(.vl (.sv (.bool false)))] [0, 1] [(false, [(.gro (.int .i8) ((lf ls 1).lst (.int .i8)))]), (false, [(.gro (.int .i8) ((lf ls 2).lst (.int .i8)))])]))
    (k .normal (mkSt 26 [] [] [0, 1] [(false, [(.gro (.int .i8) ((lf ls 1).lst (.int .i8)))]), (false, [(.gro (.int .i8) ((lf ls 2).lst (.int .i8)))])]))
    (lf ls 0).int
def g54v6b {α : Type}  (L_g54v6l0 : {α : Type} → (List Int) → (List Int) → (Option α) → (Option α) → Int → Option α) (u1223 : List Int) (u1224 : List Int) (k1237 : Bool → Option α) : Option α :=
  cond (((u1223.length : Nat) : Int) != ((u1224.length : Nat) : Int))
   (
    k1237 false)
   (
    L_g54v6l0 u1223 u1224
      (
        k1237 false)
      (
        k1237 true)
      (0 : Int))
def g54v6 {α : Type} (m : Nat) : (List Int) → (List Int) → (Bool → Option α) → Option α :=
  g54v6b (g54v6l0M m)
def g54v6tp : List TP := [(.vl (.sv (.gsl 0 1))), (.vl (.sv (.gsl 1 1)))]
def g54v6bp : List BP := [(false, [(.gro (.int .i8))]), (false, [(.gro (.int .i8))])]
def g54v6K {α : Type} (G : (List Int) → (List Int) → (Bool → Option α) → Option α) (ls : List Lf) (k : TV → List (List Seg) → List (List Seg) → Option α) : Option α :=
  G ((lf ls 0).lst (.int .i8)) ((lf ls 1).lst (.int .i8))
    (fun y0 => k (.vl (.sv (.bool y0))) [[(.gro (.int .i8) ((lf ls 0).lst (.int .i8)))], [(.gro (.int .i8) ((lf ls 1).lst (.int .i8)))]] [])
def g54v6hd  (L_g54v6l0 : {α : Type} → (List Int) → (List Int) → (Option α) → (Option α) → Int → Option α) : Hd where
  call := fun f args Bs k => none
  loop := fun id st k => cond (Nat.beq id 0) (loopH g54v6l0D (g54v6l0K L_g54v6l0) st k) (none)
  ro := fun f => []
def g54v6h (m : Nat) : Hd := g54v6hd (g54v6l0M m)
theorem g54v6l0Step  (L_g54v6l0 : {α : Type} → (List Int) → (List Int) → (Option α) → (Option α) → Int → Option α) {α : Type} (L : (List Int) → (List Int) → (Option α) → (Option α) → Int → Option α) (ls : List Lf) (k : Ex → St → Option α) :
    g54v6l0K (fun a1227 a1228 k1234 k1235 v1226 => g54v6l0b a1227 a1228 k1234 k1235 (L a1227 a1228 k1234 k1235) v1226) ls k = ev tab (g54v6hd L_g54v6l0) (bodyAt Go.Proofs.Try.f54 0) (atHead g54v6l0D ls) (loopK g54v6l0D 0 (loopH g54v6l0D (g54v6l0K L)) k) := by kernel_rfl
theorem g54v6Main  (L_g54v6l0 : {α : Type} → (List Int) → (List Int) → (Option α) → (Option α) → Int → Option α) {α : Type} (ls : List Lf) (k : TV → List (List Seg) → List (List Seg) → Option α) :
    g54v6K (g54v6b L_g54v6l0) ls k = evFun tab (g54v6hd L_g54v6l0) Go.Proofs.Try.f54 (fillT g54v6tp ls).1 (fillB g54v6bp (fillT g54v6tp ls).2).1 k := by kernel_rfl
theorem g54v6Calls (m : Nat) : (g54v6h m).CallsOk Go.Proofs.Try.prog := cok_nil
theorem g54v6l0Ok (m : Nat) (α : Type) (st : St) (k : Ex → St → Option α) (r : α) (h : (g54v6h m).loop 0 st k = some r) :
    ∃ e st', k e st' = some r ∧ CodeS Go.Proofs.Try.prog (.block 0 (.loop (bodyAt Go.Proofs.Try.f54 0))) st e st' :=
  loop_ok (tab := tab) (h := g54v6h m) (F := fun n ls k => g54v6l0K (fun a1227 a1228 k1234 k1235 v1226 => g54v6l0 a1227 a1228 k1234 k1235 n v1226) ls k) tabOk (g54v6Calls m) mixed (loopsOk_of _ (fun p hp => by rw [show loopsOf (bodyAt Go.Proofs.Try.f54 0) = [] by kernel_rfl] at hp; cases hp))
    (fun _ _ => rfl) (fun n ls k => g54v6l0Step (g54v6l0M m) (fun a1227 a1228 k1234 k1235 => g54v6l0 a1227 a1228 k1234 k1235 n) ls k) (n := m) h
theorem g54v6Fn (m : Nat) : FnOk Go.Proofs.Try.prog 54 g54v6tp g54v6bp (fun {α} => g54v6K (g54v6 (α := α) m)) :=
  fn_ok (tab := tab) (h := g54v6h m) (fn := Go.Proofs.Try.f54) (F := fun {α} => g54v6K (g54v6 (α := α) m)) tabOk (g54v6Calls m) mixed (by kernel_rfl) (by kernel_rfl) (fun c hc => by
    rw [bodyOf_some hc]
    exact loopsOk_of _ (fun p hp => by
    rw [show loopsOf (bodyOf Go.Proofs.Try.f54) = [(0, bodyAt Go.Proofs.Try.f54 0)] by kernel_rfl] at hp
    simp only [List.mem_cons, List.not_mem_nil, or_false] at hp
    rcases hp with rfl
    exact g54v6l0Ok m))
    (fun α ls k => g54v6Main (g54v6l0M m) ls k)
theorem g54v6Ok (m : Nat) : RowOk Go.Proofs.Try.prog 54 (fun {α} => rowK g54v6tp g54v6bp (g54v6K (g54v6 (α := α) m))) := row_of (g54v6Fn m)

/-! ### g39v6: laws.eqStream -/
def g39v6b {α : Type} (G_g54v6 : {α : Type} → (List Int) → (List Int) → (Bool → Option α) → Option α)  (u1219 : List Int) (u1220 : List Int) (u1221 : List Int) (u1222 : List Int) (k1242 : Bool → Option α) : Option α :=
  G_g54v6 u1219 u1221
    (fun b1238 =>
      cond (!b1238)
       (
        k1242 false)
       (
        G_g54v6 u1220 u1222
          (fun b1240 =>
            cond (!b1240)
             (
              k1242 false)
             (
              k1242 true))))
def g39v6 {α : Type} (m : Nat) : (List Int) → (List Int) → (List Int) → (List Int) → (Bool → Option α) → Option α :=
  g39v6b (g54v6 m)
def g39v6tp : List TP := [(.vl (.agg [(.one (.gsl 0 1)), (.one (.gsl 1 1))])), (.vl (.agg [(.one (.gsl 2 1)), (.one (.gsl 3 1))]))]
def g39v6bp : List BP := [(false, [(.gro (.int .i8))]), (false, [(.gro (.int .i8))]), (false, [(.gro (.int .i8))]), (false, [(.gro (.int .i8))])]
def g39v6K {α : Type} (G : (List Int) → (List Int) → (List Int) → (List Int) → (Bool → Option α) → Option α) (ls : List Lf) (k : TV → List (List Seg) → List (List Seg) → Option α) : Option α :=
  G ((lf ls 0).lst (.int .i8)) ((lf ls 1).lst (.int .i8)) ((lf ls 2).lst (.int .i8)) ((lf ls 3).lst (.int .i8))
    (fun y0 => k (.vl (.sv (.bool y0))) [[(.gro (.int .i8) ((lf ls 0).lst (.int .i8)))], [(.gro (.int .i8) ((lf ls 1).lst (.int .i8)))], [(.gro (.int .i8) ((lf ls 2).lst (.int .i8)))], [(.gro (.int .i8) ((lf ls 3).lst (.int .i8)))]] [])
def g39v6hd (G_g54v6 : {α : Type} → (List Int) → (List Int) → (Bool → Option α) → Option α)  : Hd where
  call := fun f args Bs k => cond (Nat.beq f 54) (rowK g54v6tp g54v6bp (g54v6K G_g54v6) args Bs k) (none)
  loop := fun id st k => none
  ro := fun f => cond (Nat.beq f 54) [0, 1] ([])
def g39v6h (m : Nat) : Hd := g39v6hd (g54v6 m)
theorem g39v6Main (G_g54v6 : {α : Type} → (List Int) → (List Int) → (Bool → Option α) → Option α)  {α : Type} (ls : List Lf) (k : TV → List (List Seg) → List (List Seg) → Option α) :
    g39v6K (g39v6b G_g54v6) ls k = evFun tab (g39v6hd G_g54v6) Go.Proofs.Try.f39 (fillT g39v6tp ls).1 (fillB g39v6bp (fillT g39v6tp ls).2).1 k := by kernel_rfl
theorem g39v6Calls (m : Nat) : (g39v6h m).CallsOk Go.Proofs.Try.prog := (cok_cons (g54v6Ok m) cok_nil)
theorem g39v6Fn (m : Nat) : FnOk Go.Proofs.Try.prog 39 g39v6tp g39v6bp (fun {α} => g39v6K (g39v6 (α := α) m)) :=
  fn_ok (tab := tab) (h := g39v6h m) (fn := Go.Proofs.Try.f39) (F := fun {α} => g39v6K (g39v6 (α := α) m)) tabOk (g39v6Calls m) mixed (by kernel_rfl) (by kernel_rfl) (fun c hc => by
    rw [bodyOf_some hc]
    exact loopsOk_of _ (fun p hp => by rw [show loopsOf (bodyOf Go.Proofs.Try.f39) = [] by kernel_rfl] at hp; cases hp))
    (fun α ls k => g39v6Main (g54v6 m) ls k)
theorem g39v6Ok (m : Nat) : RowOk Go.Proofs.Try.prog 39 (fun {α} => rowK g39v6tp g39v6bp (g39v6K (g39v6 (α := α) m))) := row_of (g39v6Fn m)

/-! ### g15: laws.FnExactHalfStream -/
def g15b {α : Type} (G_g35 : {α : Type} → Nat → Nat → Nat → Nat → Nat → Nat → Int → Nat → (List Int) → Nat → (List Int) → (Int → Option α) → Option α) (G_g37 : {α : Type} → Nat → Nat → Nat → Nat → Nat → Nat → Nat → (List Int) → Nat → (List Int) → ((List Int) → (List Int) → Option α) → Option α) (G_g50 : {α : Type} → Nat → Nat → Nat → Nat → Nat → Nat → Nat → (List Int) → Nat → (List Int) → (Int → Option α) → ((List Int) → (List Int) → Option α) → Option α) (G_g51 : {α : Type} → Nat → Nat → Nat → Nat → Nat → Nat → Nat → (List Int) → Nat → (List Int) → (Int → Option α) → ((List Int) → (List Int) → Option α) → Option α) (G_g39v1 : {α : Type} → (Option α) → Option α) (G_g39 : {α : Type} → Nat → Nat → Nat → Nat → Nat → Nat → Nat → Nat → Nat → Nat → Nat → Nat → Nat → (List Int) → Nat → (List Int) → Nat → (List Int) → Nat → (List Int) → (Bool → Option α) → Option α) (G_g48 : {α : Type} → Nat → Nat → Nat → Nat → Nat → Nat → Int → Nat → (List Int) → Nat → (List Int) → (Int → (List Int) → (List Int) → Option α) → Option α) (G_g48v1 : {α : Type} → Int → (Option α) → Option α) (G_g49 : {α : Type} → Int → (Int → Option α) → Option α) (G_g39v5 : {α : Type} → (List Int) → (List Int) → (Bool → Option α) → Option α) (G_g48v2 : {α : Type} → Int → (List Int) → (List Int) → (Int → (List Int) → (List Int) → Option α) → Option α) (G_g49v2 : {α : Type} → Int → (List Int) → (List Int) → (Int → Option α) → Option α) (G_g39v3 : {α : Type} → (List Int) → (List Int) → (Bool → Option α) → Option α) (G_g39v6 : {α : Type} → (List Int) → (List Int) → (List Int) → (List Int) → (Bool → Option α) → Option α)  (m997 : Nat) (m998 : Nat) (m999 : Nat) (m1000 : Nat) (m1001 : Nat) (m1002 : Nat) (m1003 : Nat) (u1004 : List Int) (m1005 : Nat) (u1006 : List Int) (k1284 : Bool → Option α) : Option α :=
  G_g35 m997 m998 m999 m1000 m1001 m1002 (1048576 : Int) m1003 u1004 m1005 u1006
    (fun x1007 =>
      cond (decide (x1007 < (0 : Int)))
       (
        k1284 true)
       (
        G_g37 m997 m998 m999 m1000 m1001 m1002 m1003 u1004 m1005 u1006
          (fun l1009 l1010 =>
            G_g50 0 m998 m998 0 m1001 m1001 m998 l1009 m1001 l1010
              (fun x1029 =>
                G_g37 m997 m998 m999 m1000 m1001 m1002 m1003 u1004 m1005 u1006
                  (fun l1030 l1031 =>
                    G_g51 0 m998 m998 0 m1001 m1001 m998 l1030 m1001 l1031
                      (fun x1057 =>
                        G_g39v1
                          (
                            cond (x1057 != x1029)
                             (
                              k1284 false)
                             (
                              G_g37 m997 m998 m999 m1000 m1001 m1002 m1003 u1004 m1005 u1006
                                (fun l1059 l1060 =>
                                  G_g39 0 m998 m998 0 m1001 m1001 0 m998 m998 0 m1001 m1001 m998 l1030 m1001 l1031 m998 l1059 m1001 l1060
                                    (fun b1061 =>
                                      cond (!b1061)
                                       (
                                        k1284 false)
                                       (
                                        G_g48 0 m998 m998 0 m1001 m1001 (1 : Int) m998 l1030 m1001 l1031
                                          (fun x1063 l1064 l1065 =>
                                            cond (decide (x1063 < (0 : Int)))
                                             (
                                              k1284 false)
                                             (
                                              G_g39v1
                                                (
                                                  cond (x1057 != x1029)
                                                   (
                                                    k1284 false)
                                                   (
                                                    G_g48v1 (1 : Int)
                                                      (
                                                        G_g49 (1 : Int)
                                                          (fun x1068 =>
                                                            cond (decide (x1068 < (0 : Int)))
                                                             (
                                                              k1284 false)
                                                             (
                                                              cond (x1068 != (1 : Int))
                                                               (
                                                                k1284 false)
                                                               (
                                                                G_g37 m997 m998 m999 m1000 m1001 m1002 m1003 u1004 m1005 u1006
                                                                  (fun l1071 l1072 =>
                                                                    G_g51 0 m998 m998 0 m1001 m1001 m998 l1071 m1001 l1072
                                                                      (fun x1073 =>
                                                                        G_g39v1
                                                                          (
                                                                            cond (x1073 != x1029)
                                                                             (
                                                                              k1284 false)
                                                                             (
                                                                              G_g49 (1 : Int)
                                                                                (fun x1075 =>
                                                                                  cond (decide (x1075 < (0 : Int)))
                                                                                   (
                                                                                    k1284 false)
                                                                                   (
                                                                                    cond (x1075 != (1 : Int))
                                                                                     (
                                                                                      k1284 false)
                                                                                     (
                                                                                      k1284 true))))))
                                                                      (fun l1078 l1079 =>
                                                                        G_g39v5 l1078 l1079
                                                                          (fun b1096 =>
                                                                            cond (!b1096)
                                                                             (
                                                                              k1284 false)
                                                                             (
                                                                              cond ((0 : Int) != x1029)
                                                                               (
                                                                                k1284 false)
                                                                               (
                                                                                G_g49 (1 : Int)
                                                                                  (fun x1099 =>
                                                                                    cond (decide (x1099 < (0 : Int)))
                                                                                     (
                                                                                      k1284 false)
                                                                                     (
                                                                                      cond (x1099 != (1 : Int))
                                                                                       (
                                                                                        k1284 false)
                                                                                       (
                                                                                        k1284 true))))))))))))))))))))))
                      (fun l1102 l1103 =>
                        G_g39v5 l1102 l1103
                          (fun b1104 =>
                            cond (!b1104)
                             (
                              k1284 false)
                             (
                              cond ((0 : Int) != x1029)
                               (
                                k1284 false)
                               (
                                G_g37 m997 m998 m999 m1000 m1001 m1002 m1003 u1004 m1005 u1006
                                  (fun l1107 l1108 =>
                                    G_g39 0 m998 m998 0 m1001 m1001 0 m998 m998 0 m1001 m1001 m998 l1030 m1001 l1031 m998 l1107 m1001 l1108
                                      (fun b1109 =>
                                        cond (!b1109)
                                         (
                                          k1284 false)
                                         (
                                          G_g48 0 m998 m998 0 m1001 m1001 (1 : Int) m998 l1030 m1001 l1031
                                            (fun x1111 l1112 l1113 =>
                                              cond (decide (x1111 < (0 : Int)))
                                               (
                                                k1284 false)
                                               (
                                                G_g39v5 l1102 l1103
                                                  (fun b1115 =>
                                                    cond (!b1115)
                                                     (
                                                      k1284 false)
                                                     (
                                                      cond ((0 : Int) != x1029)
                                                       (
                                                        k1284 false)
                                                       (
                                                        G_g48v2 (1 : Int) l1102 l1103
                                                          (fun x1141 l1142 l1143 =>
                                                            G_g49v2 (1 : Int) l1142 l1143
                                                              (fun x1168 =>
                                                                cond (decide (x1168 < (0 : Int)))
                                                                 (
                                                                  k1284 false)
                                                                 (
                                                                  cond (x1168 != x1141)
                                                                   (
                                                                    k1284 false)
                                                                   (
                                                                    G_g37 m997 m998 m999 m1000 m1001 m1002 m1003 u1004 m1005 u1006
                                                                      (fun l1171 l1172 =>
                                                                        G_g51 0 m998 m998 0 m1001 m1001 m998 l1171 m1001 l1172
                                                                          (fun x1173 =>
                                                                            G_g39v1
                                                                              (
                                                                                cond (x1173 != x1029)
                                                                                 (
                                                                                  k1284 false)
                                                                                 (
                                                                                  G_g49v2 (1 : Int) l1142 l1143
                                                                                    (fun x1175 =>
                                                                                      cond (decide (x1175 < (0 : Int)))
                                                                                       (
                                                                                        k1284 false)
                                                                                       (
                                                                                        cond (x1175 != x1141)
                                                                                         (
                                                                                          k1284 false)
                                                                                         (
                                                                                          k1284 true))))))
                                                                          (fun l1178 l1179 =>
                                                                            G_g39v5 l1178 l1179
                                                                              (fun b1180 =>
                                                                                cond (!b1180)
                                                                                 (
                                                                                  k1284 false)
                                                                                 (
                                                                                  cond ((0 : Int) != x1029)
                                                                                   (
                                                                                    k1284 false)
                                                                                   (
                                                                                    G_g49v2 (1 : Int) l1142 l1143
                                                                                      (fun x1183 =>
                                                                                        cond (decide (x1183 < (0 : Int)))
                                                                                         (
                                                                                          k1284 false)
                                                                                         (
                                                                                          cond (x1183 != x1141)
                                                                                           (
                                                                                            k1284 false)
                                                                                           (
                                                                                            k1284 true))))))))))))))))))))))))))
              (fun l1186 l1187 =>
                G_g37 m997 m998 m999 m1000 m1001 m1002 m1003 u1004 m1005 u1006
                  (fun l1188 l1189 =>
                    G_g51 0 m998 m998 0 m1001 m1001 m998 l1188 m1001 l1189
                      (fun x1190 =>
                        G_g39v3 l1186 l1187
                          (fun b1191 =>
                            cond (!b1191)
                             (
                              k1284 false)
                             (
                              cond (x1190 != (0 : Int))
                               (
                                k1284 false)
                               (
                                G_g37 m997 m998 m999 m1000 m1001 m1002 m1003 u1004 m1005 u1006
                                  (fun l1194 l1195 =>
                                    G_g39 0 m998 m998 0 m1001 m1001 0 m998 m998 0 m1001 m1001 m998 l1188 m1001 l1189 m998 l1194 m1001 l1195
                                      (fun b1196 =>
                                        cond (!b1196)
                                         (
                                          k1284 false)
                                         (
                                          G_g48 0 m998 m998 0 m1001 m1001 (1 : Int) m998 l1188 m1001 l1189
                                            (fun x1198 l1199 l1200 =>
                                              cond (decide (x1198 < (0 : Int)))
                                               (
                                                k1284 false)
                                               (
                                                G_g39v3 l1186 l1187
                                                  (fun b1202 =>
                                                    cond (!b1202)
                                                     (
                                                      k1284 false)
                                                     (
                                                      cond (x1190 != (0 : Int))
                                                       (
                                                        k1284 false)
                                                       (
                                                        G_g48v1 (1 : Int)
                                                          (
                                                            G_g49 (1 : Int)
                                                              (fun x1205 =>
                                                                cond (decide (x1205 < (0 : Int)))
                                                                 (
                                                                  k1284 false)
                                                                 (
                                                                  cond (x1205 != (1 : Int))
                                                                   (
                                                                    k1284 false)
                                                                   (
                                                                    G_g37 m997 m998 m999 m1000 m1001 m1002 m1003 u1004 m1005 u1006
                                                                      (fun l1208 l1209 =>
                                                                        G_g51 0 m998 m998 0 m1001 m1001 m998 l1208 m1001 l1209
                                                                          (fun x1210 =>
                                                                            G_g39v3 l1186 l1187
                                                                              (fun b1211 =>
                                                                                cond (!b1211)
                                                                                 (
                                                                                  k1284 false)
                                                                                 (
                                                                                  cond (x1210 != (0 : Int))
                                                                                   (
                                                                                    k1284 false)
                                                                                   (
                                                                                    G_g49 (1 : Int)
                                                                                      (fun x1214 =>
                                                                                        cond (decide (x1214 < (0 : Int)))
                                                                                         (
                                                                                          k1284 false)
                                                                                         (
                                                                                          cond (x1214 != (1 : Int))
                                                                                           (
                                                                                            k1284 false)
                                                                                           (
                                                                                            k1284 true)))))))
                                                                          (fun l1217 l1218 =>
                                                                            G_g39v6 l1217 l1218 l1186 l1187
                                                                              (fun b1243 =>
                                                                                cond (!b1243)
                                                                                 (
                                                                                  k1284 false)
                                                                                 (
                                                                                  G_g49 (1 : Int)
                                                                                    (fun x1245 =>
                                                                                      cond (decide (x1245 < (0 : Int)))
                                                                                       (
                                                                                        k1284 false)
                                                                                       (
                                                                                        cond (x1245 != (1 : Int))
                                                                                         (
                                                                                          k1284 false)
                                                                                         (
                                                                                          k1284 true)))))))))))))))))))))))
                      (fun l1248 l1249 =>
                        G_g39v6 l1248 l1249 l1186 l1187
                          (fun b1250 =>
                            cond (!b1250)
                             (
                              k1284 false)
                             (
                              G_g37 m997 m998 m999 m1000 m1001 m1002 m1003 u1004 m1005 u1006
                                (fun l1252 l1253 =>
                                  G_g39 0 m998 m998 0 m1001 m1001 0 m998 m998 0 m1001 m1001 m998 l1188 m1001 l1189 m998 l1252 m1001 l1253
                                    (fun b1254 =>
                                      cond (!b1254)
                                       (
                                        k1284 false)
                                       (
                                        G_g48 0 m998 m998 0 m1001 m1001 (1 : Int) m998 l1188 m1001 l1189
                                          (fun x1256 l1257 l1258 =>
                                            cond (decide (x1256 < (0 : Int)))
                                             (
                                              k1284 false)
                                             (
                                              G_g39v6 l1248 l1249 l1186 l1187
                                                (fun b1260 =>
                                                  cond (!b1260)
                                                   (
                                                    k1284 false)
                                                   (
                                                    G_g48v2 (1 : Int) l1248 l1249
                                                      (fun x1262 l1263 l1264 =>
                                                        G_g49v2 (1 : Int) l1263 l1264
                                                          (fun x1265 =>
                                                            cond (decide (x1265 < (0 : Int)))
                                                             (
                                                              k1284 false)
                                                             (
                                                              cond (x1265 != x1262)
                                                               (
                                                                k1284 false)
                                                               (
                                                                G_g37 m997 m998 m999 m1000 m1001 m1002 m1003 u1004 m1005 u1006
                                                                  (fun l1268 l1269 =>
                                                                    G_g51 0 m998 m998 0 m1001 m1001 m998 l1268 m1001 l1269
                                                                      (fun x1270 =>
                                                                        G_g39v3 l1186 l1187
                                                                          (fun b1271 =>
                                                                            cond (!b1271)
                                                                             (
                                                                              k1284 false)
                                                                             (
                                                                              cond (x1270 != (0 : Int))
                                                                               (
                                                                                k1284 false)
                                                                               (
                                                                                G_g49v2 (1 : Int) l1263 l1264
                                                                                  (fun x1274 =>
                                                                                    cond (decide (x1274 < (0 : Int)))
                                                                                     (
                                                                                      k1284 false)
                                                                                     (
                                                                                      cond (x1274 != x1262)
                                                                                       (
                                                                                        k1284 false)
                                                                                       (
                                                                                        k1284 true)))))))
                                                                      (fun l1277 l1278 =>
                                                                        G_g39v6 l1277 l1278 l1186 l1187
                                                                          (fun b1279 =>
                                                                            cond (!b1279)
                                                                             (
                                                                              k1284 false)
                                                                             (
                                                                              G_g49v2 (1 : Int) l1263 l1264
                                                                                (fun x1281 =>
                                                                                  cond (decide (x1281 < (0 : Int)))
                                                                                   (
                                                                                    k1284 false)
                                                                                   (
                                                                                    cond (x1281 != x1262)
                                                                                     (
                                                                                      k1284 false)
                                                                                     (
                                                                                      k1284 true))))))))))))))))))))))))))
def g15 {α : Type} (m : Nat) : Nat → Nat → Nat → Nat → Nat → Nat → Nat → (List Int) → Nat → (List Int) → (Bool → Option α) → Option α :=
  g15b (g35 m) (g37 m) (g50 m) (g51 m) (g39v1 m) (g39 m) (g48 m) (g48v1 m) (g49 m) (g39v5 m) (g48v2 m) (g49v2 m) (g39v3 m) (g39v6 m)
def g15tp : List TP := [(.vl (.agg [(.one (.sla 0 0 1)), (.one (.sla 1 0 1))]))]
def g15bp : List BP := [(false, [(.seqv (.int .i8))]), (false, [(.seqv (.int .i8))])]
def g15K {α : Type} (G : Nat → Nat → Nat → Nat → Nat → Nat → Nat → (List Int) → Nat → (List Int) → (Bool → Option α) → Option α) (ls : List Lf) (k : TV → List (List Seg) → List (List Seg) → Option α) : Option α :=
  G (lf ls 0).nat (lf ls 1).nat (lf ls 2).nat (lf ls 3).nat (lf ls 4).nat (lf ls 5).nat (lf ls 6).nat ((lf ls 7).lst (.int .i8)) (lf ls 8).nat ((lf ls 9).lst (.int .i8))
    (fun y0 => k (.vl (.sv (.bool y0))) [[(.seq (.int .i8) (lf ls 6).nat ((lf ls 7).lst (.int .i8)))], [(.seq (.int .i8) (lf ls 8).nat ((lf ls 9).lst (.int .i8)))]] [])
def g15hd (G_g35 : {α : Type} → Nat → Nat → Nat → Nat → Nat → Nat → Int → Nat → (List Int) → Nat → (List Int) → (Int → Option α) → Option α) (G_g37 : {α : Type} → Nat → Nat → Nat → Nat → Nat → Nat → Nat → (List Int) → Nat → (List Int) → ((List Int) → (List Int) → Option α) → Option α) (G_g50 : {α : Type} → Nat → Nat → Nat → Nat → Nat → Nat → Nat → (List Int) → Nat → (List Int) → (Int → Option α) → ((List Int) → (List Int) → Option α) → Option α) (G_g51 : {α : Type} → Nat → Nat → Nat → Nat → Nat → Nat → Nat → (List Int) → Nat → (List Int) → (Int → Option α) → ((List Int) → (List Int) → Option α) → Option α) (G_g39v1 : {α : Type} → (Option α) → Option α) (G_g39 : {α : Type} → Nat → Nat → Nat → Nat → Nat → Nat → Nat → Nat → Nat → Nat → Nat → Nat → Nat → (List Int) → Nat → (List Int) → Nat → (List Int) → Nat → (List Int) → (Bool → Option α) → Option α) (G_g48 : {α : Type} → Nat → Nat → Nat → Nat → Nat → Nat → Int → Nat → (List Int) → Nat → (List Int) → (Int → (List Int) → (List Int) → Option α) → Option α) (G_g48v1 : {α : Type} → Int → (Option α) → Option α) (G_g49 : {α : Type} → Int → (Int → Option α) → Option α) (G_g39v5 : {α : Type} → (List Int) → (List Int) → (Bool → Option α) → Option α) (G_g48v2 : {α : Type} → Int → (List Int) → (List Int) → (Int → (List Int) → (List Int) → Option α) → Option α) (G_g49v2 : {α : Type} → Int → (List Int) → (List Int) → (Int → Option α) → Option α) (G_g39v3 : {α : Type} → (List Int) → (List Int) → (Bool → Option α) → Option α) (G_g39v6 : {α : Type} → (List Int) → (List Int) → (List Int) → (List Int) → (Bool → Option α) → Option α)  : Hd where
  call := fun f args Bs k => cond (Nat.beq f 35) (rowK g35tp g35bp (g35K G_g35) args Bs k) (cond (Nat.beq f 37) (rowK g37tp g37bp (g37K G_g37) args Bs k) (cond (Nat.beq f 50) (rowK g50tp g50bp (g50K G_g50) args Bs k) (cond (Nat.beq f 51) (rowK g51tp g51bp (g51K G_g51) args Bs k) (cond (Nat.beq f 39) (rowE g39v1tp g39v1bp (g39v1K G_g39v1) (rowE g39tp g39bp (g39K G_g39) (rowE g39v5tp g39v5bp (g39v5K G_g39v5) (rowE g39v3tp g39v3bp (g39v3K G_g39v3) (rowK g39v6tp g39v6bp (g39v6K G_g39v6))))) args Bs k) (cond (Nat.beq f 48) (rowE g48tp g48bp (g48K G_g48) (rowE g48v1tp g48v1bp (g48v1K G_g48v1) (rowK g48v2tp g48v2bp (g48v2K G_g48v2))) args Bs k) (cond (Nat.beq f 49) (rowE g49tp g49bp (g49K G_g49) (rowK g49v2tp g49v2bp (g49v2K G_g49v2)) args Bs k) (none)))))))
  loop := fun id st k => none
  ro := fun f => cond (Nat.beq f 35) [0, 1] (cond (Nat.beq f 37) [0, 1] (cond (Nat.beq f 39) [0, 1, 2, 3] (cond (Nat.beq f 49) [0, 1] (cond (Nat.beq f 50) [0, 1] (cond (Nat.beq f 51) [0, 1] ([]))))))
def g15h (m : Nat) : Hd := g15hd (g35 m) (g37 m) (g50 m) (g51 m) (g39v1 m) (g39 m) (g48 m) (g48v1 m) (g49 m) (g39v5 m) (g48v2 m) (g49v2 m) (g39v3 m) (g39v6 m)
theorem g15Main (G_g35 : {α : Type} → Nat → Nat → Nat → Nat → Nat → Nat → Int → Nat → (List Int) → Nat → (List Int) → (Int → Option α) → Option α) (G_g37 : {α : Type} → Nat → Nat → Nat → Nat → Nat → Nat → Nat → (List Int) → Nat → (List Int) → ((List Int) → (List Int) → Option α) → Option α) (G_g50 : {α : Type} → Nat → Nat → Nat → Nat → Nat → Nat → Nat → (List Int) → Nat → (List Int) → (Int → Option α) → ((List Int) → (List Int) → Option α) → Option α) (G_g51 : {α : Type} → Nat → Nat → Nat → Nat → Nat → Nat → Nat → (List Int) → Nat → (List Int) → (Int → Option α) → ((List Int) → (List Int) → Option α) → Option α) (G_g39v1 : {α : Type} → (Option α) → Option α) (G_g39 : {α : Type} → Nat → Nat → Nat → Nat → Nat → Nat → Nat → Nat → Nat → Nat → Nat → Nat → Nat → (List Int) → Nat → (List Int) → Nat → (List Int) → Nat → (List Int) → (Bool → Option α) → Option α) (G_g48 : {α : Type} → Nat → Nat → Nat → Nat → Nat → Nat → Int → Nat → (List Int) → Nat → (List Int) → (Int → (List Int) → (List Int) → Option α) → Option α) (G_g48v1 : {α : Type} → Int → (Option α) → Option α) (G_g49 : {α : Type} → Int → (Int → Option α) → Option α) (G_g39v5 : {α : Type} → (List Int) → (List Int) → (Bool → Option α) → Option α) (G_g48v2 : {α : Type} → Int → (List Int) → (List Int) → (Int → (List Int) → (List Int) → Option α) → Option α) (G_g49v2 : {α : Type} → Int → (List Int) → (List Int) → (Int → Option α) → Option α) (G_g39v3 : {α : Type} → (List Int) → (List Int) → (Bool → Option α) → Option α) (G_g39v6 : {α : Type} → (List Int) → (List Int) → (List Int) → (List Int) → (Bool → Option α) → Option α)  {α : Type} (ls : List Lf) (k : TV → List (List Seg) → List (List Seg) → Option α) :
    g15K (g15b G_g35 G_g37 G_g50 G_g51 G_g39v1 G_g39 G_g48 G_g48v1 G_g49 G_g39v5 G_g48v2 G_g49v2 G_g39v3 G_g39v6) ls k = evFun tab (g15hd G_g35 G_g37 G_g50 G_g51 G_g39v1 G_g39 G_g48 G_g48v1 G_g49 G_g39v5 G_g48v2 G_g49v2 G_g39v3 G_g39v6) Go.Proofs.Try.f15 (fillT g15tp ls).1 (fillB g15bp (fillT g15tp ls).2).1 k := by kernel_rfl
theorem g15Calls (m : Nat) : (g15h m).CallsOk Go.Proofs.Try.prog := (cok_cons (g35Ok m) (cok_cons (g37Ok m) (cok_cons (g50Ok m) (cok_cons (g51Ok m) (cok_cons (row_else (g39v1Ok m) (row_else (g39Ok m) (row_else (g39v5Ok m) (row_else (g39v3Ok m) (g39v6Ok m))))) (cok_cons (row_else (g48Ok m) (row_else (g48v1Ok m) (g48v2Ok m))) (cok_cons (row_else (g49Ok m) (g49v2Ok m)) cok_nil)))))))
theorem g15Fn (m : Nat) : FnOk Go.Proofs.Try.prog 15 g15tp g15bp (fun {α} => g15K (g15 (α := α) m)) :=
  fn_ok (tab := tab) (h := g15h m) (fn := Go.Proofs.Try.f15) (F := fun {α} => g15K (g15 (α := α) m)) tabOk (g15Calls m) mixed (by kernel_rfl) (by kernel_rfl) (fun c hc => by
    rw [bodyOf_some hc]
    exact loopsOk_of _ (fun p hp => by rw [show loopsOf (bodyOf Go.Proofs.Try.f15) = [] by kernel_rfl] at hp; cases hp))
    (fun α ls k => g15Main (g35 m) (g37 m) (g50 m) (g51 m) (g39v1 m) (g39 m) (g48 m) (g48v1 m) (g49 m) (g39v5 m) (g48v2 m) (g49v2 m) (g39v3 m) (g39v6 m) ls k)
theorem g15Ok (m : Nat) : RowOk Go.Proofs.Try.prog 15 (fun {α} => rowK g15tp g15bp (g15K (g15 (α := α) m))) := row_of (g15Fn m)

/-! ### g52: spec.DigitsOf -/
def g52l0b {α : Type} (G_g80 : {α : Type} → Int → Nat → Nat → Nat → Nat → Nat → Nat → Nat → (List Int) → Nat → (List Int) → (Int → Option α) → Option α)  (v1315 : Int) (m1317 : Nat) (a1318 : List Int) (m1319 : Nat) (a1320 : List Int) (m1321 : Nat) (m1322 : Nat) (m1323 : Nat) (m1324 : Nat) (m1325 : Nat) (m1326 : Nat) (k1332 : (List Int) → Option α) (r1333 : Int → (List Int) → Option α) (v1316 : Int) (a1327 : List Int) : Option α :=
  cond (decide (v1316 < v1315))
   (
    G_g80 v1316 m1321 m1322 m1323 m1324 m1325 m1326 m1317 a1318 m1319 a1320
      (fun x1329 =>
        if a1327.length + 1 ≤ 67108864 then
          r1333 (IntKind.wrap .i64 (v1316 + (1 : Int))) (a1327 ++ [x1329])
        else
          none))
   (
    k1332 a1327)
def g52l0 {α : Type} (G_g80 : {α : Type} → Int → Nat → Nat → Nat → Nat → Nat → Nat → Nat → (List Int) → Nat → (List Int) → (Int → Option α) → Option α)  (v1315 : Int) (m1317 : Nat) (a1318 : List Int) (m1319 : Nat) (a1320 : List Int) (m1321 : Nat) (m1322 : Nat) (m1323 : Nat) (m1324 : Nat) (m1325 : Nat) (m1326 : Nat) (k1332 : (List Int) → Option α) : Nat → Int → (List Int) → Option α
  | 0 => fun _ _ => none
  | m + 1 => fun v1316 a1327 => g52l0b G_g80 v1315 m1317 a1318 m1319 a1320 m1321 m1322 m1323 m1324 m1325 m1326 k1332 (g52l0 G_g80 v1315 m1317 a1318 m1319 a1320 m1321 m1322 m1323 m1324 m1325 m1326 k1332 m) v1316 a1327
def g52l0M {α : Type} (m : Nat) : Int → Nat → (List Int) → Nat → (List Int) → Nat → Nat → Nat → Nat → Nat → Nat → ((List Int) → Option α) → Int → (List Int) → Option α :=
  fun v1315 m1317 a1318 m1319 a1320 m1321 m1322 m1323 m1324 m1325 m1326 k1332 v1316 a1327 => g52l0 (g80 m) v1315 m1317 a1318 m1319 a1320 m1321 m1322 m1323 m1324 m1325 m1326 k1332 m v1316 a1327
def g52l0D : LoopD := { n := 27, low := [0, 1], sl := [1, 2, 6, 7], bl := [0, 1, 1000002, 1000003], tp := [(.vl (.sv (.int .i64))), (.vl (.sv (.ptr 1000002 0))), (.vl (.sv (.gsl 1000003 1))), (.vl (.sv (.int .i64)))], bp := [(false, [(.seqv (.int .i8))]), (false, [(.seqv (.int .i8))]), (true, [(.one (.slc 0 0 1)), (.one (.slc 1 0 1))]), (true, [(.gro (.int .i8))])], xs := [(2, [6])] }
def g52l0K {α : Type} (L : Int → Nat → (List Int) → Nat → (List Int) → Nat → Nat → Nat → Nat → Nat → Nat → ((List Int) → Option α) → Int → (List Int) → Option α) (ls : List Lf) (k : Ex → St → Option α) : Option α :=
  L (lf ls 0).int (lf ls 2).nat ((lf ls 3).lst (.int .i8)) (lf ls 4).nat ((lf ls 5).lst (.int .i8)) (lf ls 6).nat (lf ls 7).nat (lf ls 8).nat (lf ls 9).nat (lf ls 10).nat (lf ls 11).nat
    (fun y4 => k .normal (mkSt 27 [6] [(.vl (.sv (.gsl 1000002 1)))] [0, 1, 1000002] [(false, [(.seq (.int .i8) (lf ls 2).nat ((lf ls 3).lst (.int .i8)))]), (false, [(.seq (.int .i8) (lf ls 4).nat ((lf ls 5).lst (.int .i8)))]), (true, [(.gro (.int .i8) y4)])]))
    (lf ls 1).int ((lf ls 12).lst (.int .i8))
def g52b {α : Type} (G_g76 : {α : Type} → Nat → Nat → Nat → Nat → Nat → Nat → Nat → (List Int) → Nat → (List Int) → (Bool → Option α) → Option α) (G_g63 : {α : Type} → Int → Int → Int → (Bool → Option α) → Option α) (G_g80 : {α : Type} → Int → Nat → Nat → Nat → Nat → Nat → Nat → Nat → (List Int) → Nat → (List Int) → (Int → Option α) → Option α) (L_g52l0 : {α : Type} → Int → Nat → (List Int) → Nat → (List Int) → Nat → Nat → Nat → Nat → Nat → Nat → ((List Int) → Option α) → Int → (List Int) → Option α) (m1300 : Nat) (m1301 : Nat) (m1302 : Nat) (m1303 : Nat) (m1304 : Nat) (m1305 : Nat) (p1306 : Int) (m1307 : Nat) (u1308 : List Int) (m1309 : Nat) (u1310 : List Int) (k1335 : Int → (List Int) → Option α) : Option α :=
  G_g76 m1300 m1301 m1302 m1303 m1304 m1305 m1307 u1308 m1309 u1310
    (fun b1311 =>
      cond (!b1311)
       (
        k1335 (1 : Int) [])
       (
        G_g63 p1306 (0 : Int) (400 : Int)
          (fun b1313 =>
            cond (!b1313)
             (
              k1335 (2 : Int) [])
             (
              L_g52l0 p1306 m1307 u1308 m1309 u1310 m1300 m1301 m1302 m1303 m1304 m1305
                (fun l1334 =>
                  k1335 (0 : Int) l1334)
                (0 : Int) []))))
def g52 {α : Type} (m : Nat) : Nat → Nat → Nat → Nat → Nat → Nat → Int → Nat → (List Int) → Nat → (List Int) → (Int → (List Int) → Option α) → Option α :=
  g52b (g76 m) (g63 m) (g80 m) (g52l0M m)
def g52tp : List TP := [(.vl (.agg [(.one (.slc 0 0 1)), (.one (.slc 1 0 1))])), (.vl (.sv (.int .i64)))]
def g52bp : List BP := [(false, [(.seqv (.int .i8))]), (false, [(.seqv (.int .i8))])]
def g52K {α : Type} (G : Nat → Nat → Nat → Nat → Nat → Nat → Int → Nat → (List Int) → Nat → (List Int) → (Int → (List Int) → Option α) → Option α) (ls : List Lf) (k : TV → List (List Seg) → List (List Seg) → Option α) : Option α :=
  G (lf ls 0).nat (lf ls 1).nat (lf ls 2).nat (lf ls 3).nat (lf ls 4).nat (lf ls 5).nat (lf ls 6).int (lf ls 7).nat ((lf ls 8).lst (.int .i8)) (lf ls 9).nat ((lf ls 10).lst (.int .i8))
    (fun y0 y5 => k (.tup [(.sv (.gsl 2 1)), (.sv (.int .i64 y0))]) [[(.seq (.int .i8) (lf ls 7).nat ((lf ls 8).lst (.int .i8)))], [(.seq (.int .i8) (lf ls 9).nat ((lf ls 10).lst (.int .i8)))]] [[(.gro (.int .i8) y5)]])
def g52hd (G_g76 : {α : Type} → Nat → Nat → Nat → Nat → Nat → Nat → Nat → (List Int) → Nat → (List Int) → (Bool → Option α) → Option α) (G_g63 : {α : Type} → Int → Int → Int → (Bool → Option α) → Option α) (G_g80 : {α : Type} → Int → Nat → Nat → Nat → Nat → Nat → Nat → Nat → (List Int) → Nat → (List Int) → (Int → Option α) → Option α) (L_g52l0 : {α : Type} → Int → Nat → (List Int) → Nat → (List Int) → Nat → Nat → Nat → Nat → Nat → Nat → ((List Int) → Option α) → Int → (List Int) → Option α) : Hd where
  call := fun f args Bs k => cond (Nat.beq f 76) (rowK g76tp g76bp (g76K G_g76) args Bs k) (cond (Nat.beq f 63) (rowK g63tp g63bp (g63K G_g63) args Bs k) (cond (Nat.beq f 80) (rowK g80tp g80bp (g80K G_g80) args Bs k) (none)))
  loop := fun id st k => cond (Nat.beq id 0) (loopH g52l0D (g52l0K L_g52l0) st k) (none)
  ro := fun f => cond (Nat.beq f 76) [0, 1, 2] (cond (Nat.beq f 80) [0, 1, 2] ([]))
def g52h (m : Nat) : Hd := g52hd (g76 m) (g63 m) (g80 m) (g52l0M m)
theorem g52l0Step (G_g76 : {α : Type} → Nat → Nat → Nat → Nat → Nat → Nat → Nat → (List Int) → Nat → (List Int) → (Bool → Option α) → Option α) (G_g63 : {α : Type} → Int → Int → Int → (Bool → Option α) → Option α) (G_g80 : {α : Type} → Int → Nat → Nat → Nat → Nat → Nat → Nat → Nat → (List Int) → Nat → (List Int) → (Int → Option α) → Option α) (L_g52l0 : {α : Type} → Int → Nat → (List Int) → Nat → (List Int) → Nat → Nat → Nat → Nat → Nat → Nat → ((List Int) → Option α) → Int → (List Int) → Option α) {α : Type} (L : Int → Nat → (List Int) → Nat → (List Int) → Nat → Nat → Nat → Nat → Nat → Nat → ((List Int) → Option α) → Int → (List Int) → Option α) (ls : List Lf) (k : Ex → St → Option α) :
    g52l0K (fun v1315 m1317 a1318 m1319 a1320 m1321 m1322 m1323 m1324 m1325 m1326 k1332 v1316 a1327 => g52l0b G_g80 v1315 m1317 a1318 m1319 a1320 m1321 m1322 m1323 m1324 m1325 m1326 k1332 (L v1315 m1317 a1318 m1319 a1320 m1321 m1322 m1323 m1324 m1325 m1326 k1332) v1316 a1327) ls k = ev tab (g52hd G_g76 G_g63 G_g80 L_g52l0) (bodyAt Go.Proofs.Try.f52 0) (atHead g52l0D ls) (loopK g52l0D 0 (loopH g52l0D (g52l0K L)) k) := by kernel_rfl
theorem g52Main (G_g76 : {α : Type} → Nat → Nat → Nat → Nat → Nat → Nat → Nat → (List Int) → Nat → (List Int) → (Bool → Option α) → Option α) (G_g63 : {α : Type} → Int → Int → Int → (Bool → Option α) → Option α) (G_g80 : {α : Type} → Int → Nat → Nat → Nat → Nat → Nat → Nat → Nat → (List Int) → Nat → (List Int) → (Int → Option α) → Option α) (L_g52l0 : {α : Type} → Int → Nat → (List Int) → Nat → (List Int) → Nat → Nat → Nat → Nat → Nat → Nat → ((List Int) → Option α) → Int → (List Int) → Option α) {α : Type} (ls : List Lf) (k : TV → List (List Seg) → List (List Seg) → Option α) :
    g52K (g52b G_g76 G_g63 G_g80 L_g52l0) ls k = evFun tab (g52hd G_g76 G_g63 G_g80 L_g52l0) Go.Proofs.Try.f52 (fillT g52tp ls).1 (fillB g52bp (fillT g52tp ls).2).1 k := by kernel_rfl
theorem g52Calls (m : Nat) : (g52h m).CallsOk Go.Proofs.Try.prog := (cok_cons (g76Ok m) (cok_cons (g63Ok m) (cok_cons (g80Ok m) cok_nil)))
theorem g52l0Ok (m : Nat) (α : Type) (st : St) (k : Ex → St → Option α) (r : α) (h : (g52h m).loop 0 st k = some r) :
    ∃ e st', k e st' = some r ∧ CodeS Go.Proofs.Try.prog (.block 0 (.loop (bodyAt Go.Proofs.Try.f52 0))) st e st' :=
  loop_ok (tab := tab) (h := g52h m) (F := fun n ls k => g52l0K (fun v1315 m1317 a1318 m1319 a1320 m1321 m1322 m1323 m1324 m1325 m1326 k1332 v1316 a1327 => g52l0 (g80 m) v1315 m1317 a1318 m1319 a1320 m1321 m1322 m1323 m1324 m1325 m1326 k1332 n v1316 a1327) ls k) tabOk (g52Calls m) mixed (loopsOk_of _ (fun p hp => by rw [show loopsOf (bodyAt Go.Proofs.Try.f52 0) = [] by kernel_rfl] at hp; cases hp))
    (fun _ _ => rfl) (fun n ls k => g52l0Step (g76 m) (g63 m) (g80 m) (g52l0M m) (fun v1315 m1317 a1318 m1319 a1320 m1321 m1322 m1323 m1324 m1325 m1326 k1332 => g52l0 (g80 m) v1315 m1317 a1318 m1319 a1320 m1321 m1322 m1323 m1324 m1325 m1326 k1332 n) ls k) (n := m) h
theorem g52Fn (m : Nat) : FnOk Go.Proofs.Try.prog 52 g52tp g52bp (fun {α} => g52K (g52 (α := α) m)) :=
  fn_ok (tab := tab) (h := g52h m) (fn := Go.Proofs.Try.f52) (F := fun {α} => g52K (g52 (α := α) m)) tabOk (g52Calls m) mixed (by kernel_rfl) (by kernel_rfl) (fun c hc => by
    rw [bodyOf_some hc]
    exact loopsOk_of _ (fun p hp => by
    rw [show loopsOf (bodyOf Go.Proofs.Try.f52) = [(0, bodyAt Go.Proofs.Try.f52 0)] by kernel_rfl] at hp
    simp only [List.mem_cons, List.not_mem_nil, or_false] at hp
    rcases hp with rfl
    exact g52l0Ok m))
    (fun α ls k => g52Main (g76 m) (g63 m) (g80 m) (g52l0M m) ls k)
theorem g52Ok (m : Nat) : RowOk Go.Proofs.Try.prog 52 (fun {α} => rowK g52tp g52bp (g52K (g52 (α := α) m))) := row_of (g52Fn m)

/-! ### g53: impl.DigitsOf -/
def g53l0b {α : Type} (G_g81 : {α : Type} → Nat → Nat → Nat → Nat → Nat → Nat → Int → Nat → (List Int) → Nat → (List Int) → (Int → Option α) → Option α)  (m1357 : Nat) (m1358 : Nat) (m1359 : Nat) (v1360 : Int) (m1362 : Nat) (a1363 : List Int) (m1364 : Nat) (a1365 : List Int) (m1366 : Nat) (m1367 : Nat) (m1368 : Nat) (m1369 : Nat) (m1370 : Nat) (m1371 : Nat) (m1372 : Nat) (k1378 : (List Int) → Option α) (r1379 : Int → (List Int) → Option α) (v1361 : Int) (a1373 : List Int) : Option α :=
  cond (decide (v1361 < v1360))
   (
    G_g81 m1366 m1367 m1368 m1369 m1370 m1371 v1361 m1362 a1363 m1364 a1365
      (fun x1375 =>
        if 0 ≤ v1361 ∧ v1361 < (m1358 : Nat) then
          if (m1357 + v1361.toNat) < m1372 then
            r1379 (IntKind.wrap .i64 (v1361 + (1 : Int))) (List.set a1373 (m1357 + v1361.toNat) x1375)
          else
            none
        else
          none))
   (
    k1378 a1373)
def g53l0 {α : Type} (G_g81 : {α : Type} → Nat → Nat → Nat → Nat → Nat → Nat → Int → Nat → (List Int) → Nat → (List Int) → (Int → Option α) → Option α)  (m1357 : Nat) (m1358 : Nat) (m1359 : Nat) (v1360 : Int) (m1362 : Nat) (a1363 : List Int) (m1364 : Nat) (a1365 : List Int) (m1366 : Nat) (m1367 : Nat) (m1368 : Nat) (m1369 : Nat) (m1370 : Nat) (m1371 : Nat) (m1372 : Nat) (k1378 : (List Int) → Option α) : Nat → Int → (List Int) → Option α
  | 0 => fun _ _ => none
  | m + 1 => fun v1361 a1373 => g53l0b G_g81 m1357 m1358 m1359 v1360 m1362 a1363 m1364 a1365 m1366 m1367 m1368 m1369 m1370 m1371 m1372 k1378 (g53l0 G_g81 m1357 m1358 m1359 v1360 m1362 a1363 m1364 a1365 m1366 m1367 m1368 m1369 m1370 m1371 m1372 k1378 m) v1361 a1373
def g53l0M {α : Type} (m : Nat) : Nat → Nat → Nat → Int → Nat → (List Int) → Nat → (List Int) → Nat → Nat → Nat → Nat → Nat → Nat → Nat → ((List Int) → Option α) → Int → (List Int) → Option α :=
  fun m1357 m1358 m1359 v1360 m1362 a1363 m1364 a1365 m1366 m1367 m1368 m1369 m1370 m1371 m1372 k1378 v1361 a1373 => g53l0 (g81 m) m1357 m1358 m1359 v1360 m1362 a1363 m1364 a1365 m1366 m1367 m1368 m1369 m1370 m1371 m1372 k1378 m v1361 a1373
def g53l0D : LoopD := { n := 29, low := [0, 1], sl := [2, 6, 17, 18], bl := [0, 1, 1000002, 1000003], tp := [(.vl (.sv (.ptr 1000002 0))), (.vl (.sv (.slc 1000003 0 1))), (.vl (.sv (.int .i64))), (.vl (.sv (.int .i64)))], bp := [(false, [(.seqv (.int .i8))]), (false, [(.seqv (.int .i8))]), (true, [(.one (.slc 0 0 1)), (.one (.slc 1 0 1))]), (true, [(.seqv (.int .i8))])], xs := [(2, [6])] }
def g53l0K {α : Type} (L : Nat → Nat → Nat → Int → Nat → (List Int) → Nat → (List Int) → Nat → Nat → Nat → Nat → Nat → Nat → Nat → ((List Int) → Option α) → Int → (List Int) → Option α) (ls : List Lf) (k : Ex → St → Option α) : Option α :=
  L (lf ls 0).nat (lf ls 1).nat (lf ls 2).nat (lf ls 3).int (lf ls 5).nat ((lf ls 6).lst (.int .i8)) (lf ls 7).nat ((lf ls 8).lst (.int .i8)) (lf ls 9).nat (lf ls 10).nat (lf ls 11).nat (lf ls 12).nat (lf ls 13).nat (lf ls 14).nat (lf ls 15).nat
    (fun y8 => k .normal (mkSt 29 [6] [(.vl (.sv (.slc 1000002 0 1 (lf ls 0).nat (lf ls 1).nat (lf ls 2).nat)))] [0, 1, 1000002] [(false, [(.seq (.int .i8) (lf ls 5).nat ((lf ls 6).lst (.int .i8)))]), (false, [(.seq (.int .i8) (lf ls 7).nat ((lf ls 8).lst (.int .i8)))]), (true, [(.seq (.int .i8) (lf ls 15).nat y8)])]))
    (lf ls 4).int ((lf ls 16).lst (.int .i8))
def g53b {α : Type} (G_g41 : {α : Type} → Nat → Nat → Nat → Nat → Nat → Nat → Nat → (List Int) → Nat → (List Int) → (Bool → Option α) → Option α) (G_g58 : {α : Type} → Int → Int → Int → (Bool → Option α) → Option α) (G_g81 : {α : Type} → Nat → Nat → Nat → Nat → Nat → Nat → Int → Nat → (List Int) → Nat → (List Int) → (Int → Option α) → Option α) (L_g53l0 : {α : Type} → Nat → Nat → Nat → Int → Nat → (List Int) → Nat → (List Int) → Nat → Nat → Nat → Nat → Nat → Nat → Nat → ((List Int) → Option α) → Int → (List Int) → Option α) (m1340 : Nat) (m1341 : Nat) (m1342 : Nat) (m1343 : Nat) (m1344 : Nat) (m1345 : Nat) (p1346 : Int) (m1347 : Nat) (u1348 : List Int) (m1349 : Nat) (u1350 : List Int) (k1381 : Int → Option α) (k1382 : Nat → Nat → Nat → (List Int) → Option α) : Option α :=
  G_g41 m1340 m1341 m1342 m1343 m1344 m1345 m1347 u1348 m1349 u1350
    (fun b1351 =>
      cond (!b1351)
       (
        k1381 (1 : Int))
       (
        G_g58 p1346 (0 : Int) (400 : Int)
          (fun b1353 =>
            cond (!b1353)
             (
              k1381 (2 : Int))
             (
              if p1346 = p1346 ∧ 0 ≤ p1346 ∧ p1346 ≤ 1048576 then
                let n1355 : Nat := p1346.toNat
                L_g53l0 0 n1355 n1355 ((n1355 : Nat) : Int) m1347 u1348 m1349 u1350 m1340 m1341 m1342 m1343 m1344 m1345 n1355
                  (fun l1380 =>
                    k1382 n1355 n1355 n1355 l1380)
                  (0 : Int) (List.replicate n1355 (0 : Int))
              else
                none))))
def g53 {α : Type} (m : Nat) : Nat → Nat → Nat → Nat → Nat → Nat → Int → Nat → (List Int) → Nat → (List Int) → (Int → Option α) → (Nat → Nat → Nat → (List Int) → Option α) → Option α :=
  g53b (g41 m) (g58 m) (g81 m) (g53l0M m)
def g53tp : List TP := [(.vl (.agg [(.one (.slc 0 0 1)), (.one (.slc 1 0 1))])), (.vl (.sv (.int .i64)))]
def g53bp : List BP := [(false, [(.seqv (.int .i8))]), (false, [(.seqv (.int .i8))])]
def g53K {α : Type} (G : Nat → Nat → Nat → Nat → Nat → Nat → Int → Nat → (List Int) → Nat → (List Int) → (Int → Option α) → (Nat → Nat → Nat → (List Int) → Option α) → Option α) (ls : List Lf) (k : TV → List (List Seg) → List (List Seg) → Option α) : Option α :=
  G (lf ls 0).nat (lf ls 1).nat (lf ls 2).nat (lf ls 3).nat (lf ls 4).nat (lf ls 5).nat (lf ls 6).int (lf ls 7).nat ((lf ls 8).lst (.int .i8)) (lf ls 9).nat ((lf ls 10).lst (.int .i8))
    (fun y0 => k (.tup [(.sv .nils), (.sv (.int .i64 y0))]) [[(.seq (.int .i8) (lf ls 7).nat ((lf ls 8).lst (.int .i8)))], [(.seq (.int .i8) (lf ls 9).nat ((lf ls 10).lst (.int .i8)))]] [])
    (fun y1 y2 y8 y9 => k (.tup [(.sv (.slc 2 0 1 0 y1 y2)), (.sv (.int .i64 (0 : Int)))]) [[(.seq (.int .i8) (lf ls 7).nat ((lf ls 8).lst (.int .i8)))], [(.seq (.int .i8) (lf ls 9).nat ((lf ls 10).lst (.int .i8)))]] [[(.seq (.int .i8) y8 y9)]])
def g53hd (G_g41 : {α : Type} → Nat → Nat → Nat → Nat → Nat → Nat → Nat → (List Int) → Nat → (List Int) → (Bool → Option α) → Option α) (G_g58 : {α : Type} → Int → Int → Int → (Bool → Option α) → Option α) (G_g81 : {α : Type} → Nat → Nat → Nat → Nat → Nat → Nat → Int → Nat → (List Int) → Nat → (List Int) → (Int → Option α) → Option α) (L_g53l0 : {α : Type} → Nat → Nat → Nat → Int → Nat → (List Int) → Nat → (List Int) → Nat → Nat → Nat → Nat → Nat → Nat → Nat → ((List Int) → Option α) → Int → (List Int) → Option α) : Hd where
  call := fun f args Bs k => cond (Nat.beq f 41) (rowK g41tp g41bp (g41K G_g41) args Bs k) (cond (Nat.beq f 58) (rowK g58tp g58bp (g58K G_g58) args Bs k) (cond (Nat.beq f 81) (rowK g81tp g81bp (g81K G_g81) args Bs k) (none)))
  loop := fun id st k => cond (Nat.beq id 0) (loopH g53l0D (g53l0K L_g53l0) st k) (none)
  ro := fun f => cond (Nat.beq f 41) [0, 1] (cond (Nat.beq f 81) [0, 1] ([]))
def g53h (m : Nat) : Hd := g53hd (g41 m) (g58 m) (g81 m) (g53l0M m)
theorem g53l0Step (G_g41 : {α : Type} → Nat → Nat → Nat → Nat → Nat → Nat → Nat → (List Int) → Nat → (List Int) → (Bool → Option α) → Option α) (G_g58 : {α : Type} → Int → Int → Int → (Bool → Option α) → Option α) (G_g81 : {α : Type} → Nat → Nat → Nat → Nat → Nat → Nat → Int → Nat → (List Int) → Nat → (List Int) → (Int → Option α) → Option α) (L_g53l0 : {α : Type} → Nat → Nat → Nat → Int → Nat → (List Int) → Nat → (List Int) → Nat → Nat → Nat → Nat → Nat → Nat → Nat → ((List Int) → Option α) → Int → (List Int) → Option α) {α : Type} (L : Nat → Nat → Nat → Int → Nat → (List Int) → Nat → (List Int) → Nat → Nat → Nat → Nat → Nat → Nat → Nat → ((List Int) → Option α) → Int → (List Int) → Option α) (ls : List Lf) (k : Ex → St → Option α) :
    g53l0K (fun m1357 m1358 m1359 v1360 m1362 a1363 m1364 a1365 m1366 m1367 m1368 m1369 m1370 m1371 m1372 k1378 v1361 a1373 => g53l0b G_g81 m1357 m1358 m1359 v1360 m1362 a1363 m1364 a1365 m1366 m1367 m1368 m1369 m1370 m1371 m1372 k1378 (L m1357 m1358 m1359 v1360 m1362 a1363 m1364 a1365 m1366 m1367 m1368 m1369 m1370 m1371 m1372 k1378) v1361 a1373) ls k = ev tab (g53hd G_g41 G_g58 G_g81 L_g53l0) (bodyAt Go.Proofs.Try.f53 0) (atHead g53l0D ls) (loopK g53l0D 0 (loopH g53l0D (g53l0K L)) k) := by kernel_rfl
theorem g53Main (G_g41 : {α : Type} → Nat → Nat → Nat → Nat → Nat → Nat → Nat → (List Int) → Nat → (List Int) → (Bool → Option α) → Option α) (G_g58 : {α : Type} → Int → Int → Int → (Bool → Option α) → Option α) (G_g81 : {α : Type} → Nat → Nat → Nat → Nat → Nat → Nat → Int → Nat → (List Int) → Nat → (List Int) → (Int → Option α) → Option α) (L_g53l0 : {α : Type} → Nat → Nat → Nat → Int → Nat → (List Int) → Nat → (List Int) → Nat → Nat → Nat → Nat → Nat → Nat → Nat → ((List Int) → Option α) → Int → (List Int) → Option α) {α : Type} (ls : List Lf) (k : TV → List (List Seg) → List (List Seg) → Option α) :
    g53K (g53b G_g41 G_g58 G_g81 L_g53l0) ls k = evFun tab (g53hd G_g41 G_g58 G_g81 L_g53l0) Go.Proofs.Try.f53 (fillT g53tp ls).1 (fillB g53bp (fillT g53tp ls).2).1 k := by kernel_rfl
theorem g53Calls (m : Nat) : (g53h m).CallsOk Go.Proofs.Try.prog := (cok_cons (g41Ok m) (cok_cons (g58Ok m) (cok_cons (g81Ok m) cok_nil)))
theorem g53l0Ok (m : Nat) (α : Type) (st : St) (k : Ex → St → Option α) (r : α) (h : (g53h m).loop 0 st k = some r) :
    ∃ e st', k e st' = some r ∧ CodeS Go.Proofs.Try.prog (.block 0 (.loop (bodyAt Go.Proofs.Try.f53 0))) st e st' :=
  loop_ok (tab := tab) (h := g53h m) (F := fun n ls k => g53l0K (fun m1357 m1358 m1359 v1360 m1362 a1363 m1364 a1365 m1366 m1367 m1368 m1369 m1370 m1371 m1372 k1378 v1361 a1373 => g53l0 (g81 m) m1357 m1358 m1359 v1360 m1362 a1363 m1364 a1365 m1366 m1367 m1368 m1369 m1370 m1371 m1372 k1378 n v1361 a1373) ls k) tabOk (g53Calls m) mixed (loopsOk_of _ (fun p hp => by rw [show loopsOf (bodyAt Go.Proofs.Try.f53 0) = [] by kernel_rfl] at hp; cases hp))
    (fun _ _ => rfl) (fun n ls k => g53l0Step (g41 m) (g58 m) (g81 m) (g53l0M m) (fun m1357 m1358 m1359 v1360 m1362 a1363 m1364 a1365 m1366 m1367 m1368 m1369 m1370 m1371 m1372 k1378 => g53l0 (g81 m) m1357 m1358 m1359 v1360 m1362 a1363 m1364 a1365 m1366 m1367 m1368 m1369 m1370 m1371 m1372 k1378 n) ls k) (n := m) h
theorem g53Fn (m : Nat) : FnOk Go.Proofs.Try.prog 53 g53tp g53bp (fun {α} => g53K (g53 (α := α) m)) :=
  fn_ok (tab := tab) (h := g53h m) (fn := Go.Proofs.Try.f53) (F := fun {α} => g53K (g53 (α := α) m)) tabOk (g53Calls m) mixed (by kernel_rfl) (by kernel_rfl) (fun c hc => by
    rw [bodyOf_some hc]
    exact loopsOk_of _ (fun p hp => by
    rw [show loopsOf (bodyOf Go.Proofs.Try.f53) = [(0, bodyAt Go.Proofs.Try.f53 0)] by kernel_rfl] at hp
    simp only [List.mem_cons, List.not_mem_nil, or_false] at hp
    rcases hp with rfl
    exact g53l0Ok m))
    (fun α ls k => g53Main (g41 m) (g58 m) (g81 m) (g53l0M m) ls k)
theorem g53Ok (m : Nat) : RowOk Go.Proofs.Try.prog 53 (fun {α} => rowK g53tp g53bp (g53K (g53 (α := α) m))) := row_of (g53Fn m)

/-! ### g16: laws.FnExactDigitsOf -/
def g16b {α : Type} (G_g35 : {α : Type} → Nat → Nat → Nat → Nat → Nat → Nat → Int → Nat → (List Int) → Nat → (List Int) → (Int → Option α) → Option α) (G_g37 : {α : Type} → Nat → Nat → Nat → Nat → Nat → Nat → Nat → (List Int) → Nat → (List Int) → ((List Int) → (List Int) → Option α) → Option α) (G_g52 : {α : Type} → Nat → Nat → Nat → Nat → Nat → Nat → Int → Nat → (List Int) → Nat → (List Int) → (Int → (List Int) → Option α) → Option α) (G_g53 : {α : Type} → Nat → Nat → Nat → Nat → Nat → Nat → Int → Nat → (List Int) → Nat → (List Int) → (Int → Option α) → (Nat → Nat → Nat → (List Int) → Option α) → Option α) (G_g54v3 : {α : Type} → (List Int) → (Bool → Option α) → Option α) (G_g39 : {α : Type} → Nat → Nat → Nat → Nat → Nat → Nat → Nat → Nat → Nat → Nat → Nat → Nat → Nat → (List Int) → Nat → (List Int) → Nat → (List Int) → Nat → (List Int) → (Bool → Option α) → Option α) (G_g48 : {α : Type} → Nat → Nat → Nat → Nat → Nat → Nat → Int → Nat → (List Int) → Nat → (List Int) → (Int → (List Int) → (List Int) → Option α) → Option α) (G_g55v1 : {α : Type} → Int → (Option α) → Option α) (G_g56 : {α : Type} → Int → (Option α) → Option α) (G_g54v4 : {α : Type} → Nat → Nat → Nat → Nat → (List Int) → (List Int) → (Bool → Option α) → Option α) (G_g55 : {α : Type} → Nat → Nat → Nat → Int → Nat → (List Int) → (Int → (List Int) → Option α) → Option α) (G_g56v1 : {α : Type} → Nat → Nat → Nat → Int → Nat → (List Int) → (Int → Option α) → Option α)  (m1285 : Nat) (m1286 : Nat) (m1287 : Nat) (m1288 : Nat) (m1289 : Nat) (m1290 : Nat) (p1291 : Int) (m1292 : Nat) (u1293 : List Int) (m1294 : Nat) (u1295 : List Int) (k1453 : Bool → Option α) : Option α :=
  G_g35 m1285 m1286 m1287 m1288 m1289 m1290 (1048576 : Int) m1292 u1293 m1294 u1295
    (fun x1296 =>
      cond (decide (x1296 < (0 : Int)))
       (
        k1453 true)
       (
        G_g37 m1285 m1286 m1287 m1288 m1289 m1290 m1292 u1293 m1294 u1295
          (fun l1298 l1299 =>
            G_g52 0 m1286 m1286 0 m1289 m1289 p1291 m1286 l1298 m1289 l1299
              (fun x1336 l1337 =>
                G_g37 m1285 m1286 m1287 m1288 m1289 m1290 m1292 u1293 m1294 u1295
                  (fun l1338 l1339 =>
                    G_g53 0 m1286 m1286 0 m1289 m1289 p1291 m1286 l1338 m1289 l1339
                      (fun x1383 =>
                        G_g54v3 l1337
                          (fun b1384 =>
                            cond (!b1384)
                             (
                              k1453 false)
                             (
                              cond (x1383 != x1336)
                               (
                                k1453 false)
                               (
                                G_g37 m1285 m1286 m1287 m1288 m1289 m1290 m1292 u1293 m1294 u1295
                                  (fun l1387 l1388 =>
                                    G_g39 0 m1286 m1286 0 m1289 m1289 0 m1286 m1286 0 m1289 m1289 m1286 l1338 m1289 l1339 m1286 l1387 m1289 l1388
                                      (fun b1389 =>
                                        cond (!b1389)
                                         (
                                          k1453 false)
                                         (
                                          G_g48 0 m1286 m1286 0 m1289 m1289 (1 : Int) m1286 l1338 m1289 l1339
                                            (fun x1391 l1392 l1393 =>
                                              cond (decide (x1391 < (0 : Int)))
                                               (
                                                k1453 false)
                                               (
                                                G_g54v3 l1337
                                                  (fun b1395 =>
                                                    cond (!b1395)
                                                     (
                                                      k1453 false)
                                                     (
                                                      cond (x1383 != x1336)
                                                       (
                                                        k1453 false)
                                                       (
                                                        G_g55v1 (1 : Int)
                                                          (
                                                            G_g56 (1 : Int)
                                                              (
                                                                G_g37 m1285 m1286 m1287 m1288 m1289 m1290 m1292 u1293 m1294 u1295
                                                                  (fun l1398 l1399 =>
                                                                    G_g53 0 m1286 m1286 0 m1289 m1289 p1291 m1286 l1398 m1289 l1399
                                                                      (fun x1400 =>
                                                                        G_g54v3 l1337
                                                                          (fun b1401 =>
                                                                            cond (!b1401)
                                                                             (
                                                                              k1453 false)
                                                                             (
                                                                              cond (x1400 != x1336)
                                                                               (
                                                                                k1453 false)
                                                                               (
                                                                                G_g56 (1 : Int)
                                                                                  (
                                                                                    k1453 true)))))
                                                                      (fun n1404 n1405 n1406 l1407 =>
                                                                        G_g54v4 0 n1404 n1405 n1406 l1407 l1337
                                                                          (fun b1408 =>
                                                                            cond (!b1408)
                                                                             (
                                                                              k1453 false)
                                                                             (
                                                                              cond ((0 : Int) != x1336)
                                                                               (
                                                                                k1453 false)
                                                                               (
                                                                                G_g56 (1 : Int)
                                                                                  (
                                                                                    k1453 true))))))))))))))))))))
                      (fun n1411 n1412 n1413 l1414 =>
                        G_g54v4 0 n1411 n1412 n1413 l1414 l1337
                          (fun b1415 =>
                            cond (!b1415)
                             (
                              k1453 false)
                             (
                              cond ((0 : Int) != x1336)
                               (
                                k1453 false)
                               (
                                G_g37 m1285 m1286 m1287 m1288 m1289 m1290 m1292 u1293 m1294 u1295
                                  (fun l1418 l1419 =>
                                    G_g39 0 m1286 m1286 0 m1289 m1289 0 m1286 m1286 0 m1289 m1289 m1286 l1338 m1289 l1339 m1286 l1418 m1289 l1419
                                      (fun b1420 =>
                                        cond (!b1420)
                                         (
                                          k1453 false)
                                         (
                                          G_g48 0 m1286 m1286 0 m1289 m1289 (1 : Int) m1286 l1338 m1289 l1339
                                            (fun x1422 l1423 l1424 =>
                                              cond (decide (x1422 < (0 : Int)))
                                               (
                                                k1453 false)
                                               (
                                                G_g54v4 0 n1411 n1412 n1413 l1414 l1337
                                                  (fun b1426 =>
                                                    cond (!b1426)
                                                     (
                                                      k1453 false)
                                                     (
                                                      cond ((0 : Int) != x1336)
                                                       (
                                                        k1453 false)
                                                       (
                                                        G_g55 0 n1411 n1412 (1 : Int) n1413 l1414
                                                          (fun x1429 l1430 =>
                                                            G_g56v1 0 n1411 n1412 (1 : Int) n1413 l1430
                                                              (fun x1431 =>
                                                                cond (decide (x1431 < (0 : Int)))
                                                                 (
                                                                  k1453 false)
                                                                 (
                                                                  cond (x1431 != x1429)
                                                                   (
                                                                    k1453 false)
                                                                   (
                                                                    G_g37 m1285 m1286 m1287 m1288 m1289 m1290 m1292 u1293 m1294 u1295
                                                                      (fun l1434 l1435 =>
                                                                        G_g53 0 m1286 m1286 0 m1289 m1289 p1291 m1286 l1434 m1289 l1435
                                                                          (fun x1436 =>
                                                                            G_g54v3 l1337
                                                                              (fun b1437 =>
                                                                                cond (!b1437)
                                                                                 (
                                                                                  k1453 false)
                                                                                 (
                                                                                  cond (x1436 != x1336)
                                                                                   (
                                                                                    k1453 false)
                                                                                   (
                                                                                    G_g56v1 0 n1411 n1412 (1 : Int) n1413 l1430
                                                                                      (fun x1440 =>
                                                                                        cond (decide (x1440 < (0 : Int)))
                                                                                         (
                                                                                          k1453 false)
                                                                                         (
                                                                                          cond (x1440 != x1429)
                                                                                           (
                                                                                            k1453 false)
                                                                                           (
                                                                                            k1453 true)))))))
                                                                          (fun n1443 n1444 n1445 l1446 =>
                                                                            G_g54v4 0 n1443 n1444 n1445 l1446 l1337
                                                                              (fun b1447 =>
                                                                                cond (!b1447)
                                                                                 (
                                                                                  k1453 false)
                                                                                 (
                                                                                  cond ((0 : Int) != x1336)
                                                                                   (
                                                                                    k1453 false)
                                                                                   (
                                                                                    G_g56v1 0 n1411 n1412 (1 : Int) n1413 l1430
                                                                                      (fun x1450 =>
                                                                                        cond (decide (x1450 < (0 : Int)))
                                                                                         (
                                                                                          k1453 false)
                                                                                         (
                                                                                          cond (x1450 != x1429)
                                                                                           (
                                                                                            k1453 false)
                                                                                           (
                                                                                            k1453 true)))))))))))))))))))))))))))))
def g16 {α : Type} (m : Nat) : Nat → Nat → Nat → Nat → Nat → Nat → Int → Nat → (List Int) → Nat → (List Int) → (Bool → Option α) → Option α :=
  g16b (g35 m) (g37 m) (g52 m) (g53 m) (g54v3 m) (g39 m) (g48 m) (g55v1 m) (g56 m) (g54v4 m) (g55 m) (g56v1 m)
def g16tp : List TP := [(.vl (.agg [(.one (.sla 0 0 1)), (.one (.sla 1 0 1))])), (.vl (.sv (.int .i64)))]
def g16bp : List BP := [(false, [(.seqv (.int .i8))]), (false, [(.seqv (.int .i8))])]
def g16K {α : Type} (G : Nat → Nat → Nat → Nat → Nat → Nat → Int → Nat → (List Int) → Nat → (List Int) → (Bool → Option α) → Option α) (ls : List Lf) (k : TV → List (List Seg) → List (List Seg) → Option α) : Option α :=
  G (lf ls 0).nat (lf ls 1).nat (lf ls 2).nat (lf ls 3).nat (lf ls 4).nat (lf ls 5).nat (lf ls 6).int (lf ls 7).nat ((lf ls 8).lst (.int .i8)) (lf ls 9).nat ((lf ls 10).lst (.int .i8))
    (fun y0 => k (.vl (.sv (.bool y0))) [[(.seq (.int .i8) (lf ls 7).nat ((lf ls 8).lst (.int .i8)))], [(.seq (.int .i8) (lf ls 9).nat ((lf ls 10).lst (.int .i8)))]] [])
def g16hd (G_g35 : {α : Type} → Nat → Nat → Nat → Nat → Nat → Nat → Int → Nat → (List Int) → Nat → (List Int) → (Int → Option α) → Option α) (G_g37 : {α : Type} → Nat → Nat → Nat → Nat → Nat → Nat → Nat → (List Int) → Nat → (List Int) → ((List Int) → (List Int) → Option α) → Option α) (G_g52 : {α : Type} → Nat → Nat → Nat → Nat → Nat → Nat → Int → Nat → (List Int) → Nat → (List Int) → (Int → (List Int) → Option α) → Option α) (G_g53 : {α : Type} → Nat → Nat → Nat → Nat → Nat → Nat → Int → Nat → (List Int) → Nat → (List Int) → (Int → Option α) → (Nat → Nat → Nat → (List Int) → Option α) → Option α) (G_g54v3 : {α : Type} → (List Int) → (Bool → Option α) → Option α) (G_g39 : {α : Type} → Nat → Nat → Nat → Nat → Nat → Nat → Nat → Nat → Nat → Nat → Nat → Nat → Nat → (List Int) → Nat → (List Int) → Nat → (List Int) → Nat → (List Int) → (Bool → Option α) → Option α) (G_g48 : {α : Type} → Nat → Nat → Nat → Nat → Nat → Nat → Int → Nat → (List Int) → Nat → (List Int) → (Int → (List Int) → (List Int) → Option α) → Option α) (G_g55v1 : {α : Type} → Int → (Option α) → Option α) (G_g56 : {α : Type} → Int → (Option α) → Option α) (G_g54v4 : {α : Type} → Nat → Nat → Nat → Nat → (List Int) → (List Int) → (Bool → Option α) → Option α) (G_g55 : {α : Type} → Nat → Nat → Nat → Int → Nat → (List Int) → (Int → (List Int) → Option α) → Option α) (G_g56v1 : {α : Type} → Nat → Nat → Nat → Int → Nat → (List Int) → (Int → Option α) → Option α)  : Hd where
  call := fun f args Bs k => cond (Nat.beq f 35) (rowK g35tp g35bp (g35K G_g35) args Bs k) (cond (Nat.beq f 37) (rowK g37tp g37bp (g37K G_g37) args Bs k) (cond (Nat.beq f 52) (rowK g52tp g52bp (g52K G_g52) args Bs k) (cond (Nat.beq f 53) (rowK g53tp g53bp (g53K G_g53) args Bs k) (cond (Nat.beq f 54) (rowE g54v3tp g54v3bp (g54v3K G_g54v3) (rowK g54v4tp g54v4bp (g54v4K G_g54v4)) args Bs k) (cond (Nat.beq f 39) (rowK g39tp g39bp (g39K G_g39) args Bs k) (cond (Nat.beq f 48) (rowK g48tp g48bp (g48K G_g48) args Bs k) (cond (Nat.beq f 55) (rowE g55v1tp g55v1bp (g55v1K G_g55v1) (rowK g55tp g55bp (g55K G_g55)) args Bs k) (cond (Nat.beq f 56) (rowE g56tp g56bp (g56K G_g56) (rowK g56v1tp g56v1bp (g56v1K G_g56v1)) args Bs k) (none)))))))))
  loop := fun id st k => none
  ro := fun f => cond (Nat.beq f 35) [0, 1] (cond (Nat.beq f 37) [0, 1] (cond (Nat.beq f 39) [0, 1, 2, 3] (cond (Nat.beq f 52) [0, 1] (cond (Nat.beq f 53) [0, 1] (cond (Nat.beq f 54) [0, 1] (cond (Nat.beq f 56) [0] ([])))))))
def g16h (m : Nat) : Hd := g16hd (g35 m) (g37 m) (g52 m) (g53 m) (g54v3 m) (g39 m) (g48 m) (g55v1 m) (g56 m) (g54v4 m) (g55 m) (g56v1 m)
theorem g16Main (G_g35 : {α : Type} → Nat → Nat → Nat → Nat → Nat → Nat → Int → Nat → (List Int) → Nat → (List Int) → (Int → Option α) → Option α) (G_g37 : {α : Type} → Nat → Nat → Nat → Nat → Nat → Nat → Nat → (List Int) → Nat → (List Int) → ((List Int) → (List Int) → Option α) → Option α) (G_g52 : {α : Type} → Nat → Nat → Nat → Nat → Nat → Nat → Int → Nat → (List Int) → Nat → (List Int) → (Int → (List Int) → Option α) → Option α) (G_g53 : {α : Type} → Nat → Nat → Nat → Nat → Nat → Nat → Int → Nat → (List Int) → Nat → (List Int) → (Int → Option α) → (Nat → Nat → Nat → (List Int) → Option α) → Option α) (G_g54v3 : {α : Type} → (List Int) → (Bool → Option α) → Option α) (G_g39 : {α : Type} → Nat → Nat → Nat → Nat → Nat → Nat → Nat → Nat → Nat → Nat → Nat → Nat → Nat → (List Int) → Nat → (List Int) → Nat → (List Int) → Nat → (List Int) → (Bool → Option α) → Option α) (G_g48 : {α : Type} → Nat → Nat → Nat → Nat → Nat → Nat → Int → Nat → (List Int) → Nat → (List Int) → (Int → (List Int) → (List Int) → Option α) → Option α) (G_g55v1 : {α : Type} → Int → (Option α) → Option α) (G_g56 : {α : Type} → Int → (Option α) → Option α) (G_g54v4 : {α : Type} → Nat → Nat → Nat → Nat → (List Int) → (List Int) → (Bool → Option α) → Option α) (G_g55 : {α : Type} → Nat → Nat → Nat → Int → Nat → (List Int) → (Int → (List Int) → Option α) → Option α) (G_g56v1 : {α : Type} → Nat → Nat → Nat → Int → Nat → (List Int) → (Int → Option α) → Option α)  {α : Type} (ls : List Lf) (k : TV → List (List Seg) → List (List Seg) → Option α) :
    g16K (g16b G_g35 G_g37 G_g52 G_g53 G_g54v3 G_g39 G_g48 G_g55v1 G_g56 G_g54v4 G_g55 G_g56v1) ls k = evFun tab (g16hd G_g35 G_g37 G_g52 G_g53 G_g54v3 G_g39 G_g48 G_g55v1 G_g56 G_g54v4 G_g55 G_g56v1) Go.Proofs.Try.f16 (fillT g16tp ls).1 (fillB g16bp (fillT g16tp ls).2).1 k := by kernel_rfl
theorem g16Calls (m : Nat) : (g16h m).CallsOk Go.Proofs.Try.prog := (cok_cons (g35Ok m) (cok_cons (g37Ok m) (cok_cons (g52Ok m) (cok_cons (g53Ok m) (cok_cons (row_else (g54v3Ok m) (g54v4Ok m)) (cok_cons (g39Ok m) (cok_cons (g48Ok m) (cok_cons (row_else (g55v1Ok m) (g55Ok m)) (cok_cons (row_else (g56Ok m) (g56v1Ok m)) cok_nil)))))))))
theorem g16Fn (m : Nat) : FnOk Go.Proofs.Try.prog 16 g16tp g16bp (fun {α} => g16K (g16 (α := α) m)) :=
  fn_ok (tab := tab) (h := g16h m) (fn := Go.Proofs.Try.f16) (F := fun {α} => g16K (g16 (α := α) m)) tabOk (g16Calls m) mixed (by kernel_rfl) (by kernel_rfl) (fun c hc => by
    rw [bodyOf_some hc]
    exact loopsOk_of _ (fun p hp => by rw [show loopsOf (bodyOf Go.Proofs.Try.f16) = [] by kernel_rfl] at hp; cases hp))
    (fun α ls k => g16Main (g35 m) (g37 m) (g52 m) (g53 m) (g54v3 m) (g39 m) (g48 m) (g55v1 m) (g56 m) (g54v4 m) (g55 m) (g56v1 m) ls k)
theorem g16Ok (m : Nat) : RowOk Go.Proofs.Try.prog 16 (fun {α} => rowK g16tp g16bp (g16K (g16 (α := α) m))) := row_of (g16Fn m)
end Go.Proofs.Ytbpljilgekneoaa.Sx
