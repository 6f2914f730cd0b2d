/- Functions. Printed by our own sx.py. -/
import Derived.Test.YtlmmgjngihlpeaaSxV2
namespace Go.Proofs.Ytlmmgjngihlpeaa.Sx
open Go
set_option linter.unusedVariables false
set_option maxRecDepth 100000
abbrev S_g40 (α : Type) : Type := Nat → Nat → Nat → Int → Int → Nat → Ty0 → (Int → Int → Int → Option α) → Option α
abbrev S_g40l0 (α : Type) : Type := Int → Int → Nat → Ty0 → (Int → Int → Int → Option α) → (Option α) → Int → Nat → Nat → Nat → Nat → Nat → Nat → Ty1 → Ty0 → Option α
def g40l0b {α : Type} (G85 : Al S_g85) (G88 : Al S_g88) (G59 : Al S_g59)  (a b : Int) (c : Nat) (d : Ty0) (e : Int → Int → Int → Option α) (h : Option α) (i : Int → Nat → Nat → Nat → Nat → Nat → Nat → Ty1 → Ty0 → Option α) (j : Int) (l n : Nat) (o p : Nat) (q r : Nat) (s : Ty1) (t : Ty0) : Option α := cond (decide (j ≤ b)) (G85 a j l n o p q r c d s t (fun u v w x y z a0 b0 c0 d0 e0 h0 i0 => cond (w != (0 : Int)) (e (0 : Int) (0 : Int) w) (G88 u v (2 : Int) (fun j0 => cond j0 (G59 u v (fun l0 => e l0 j (0 : Int))) (i (IntKind.wrap .i64 (j + (1 : Int))) x y z a0 b0 c0 h0 i0))))) (h)
def g40l0 {α : Type} (G85 : Al S_g85) (G88 : Al S_g88) (G59 : Al S_g59)  (a b : Int) (c : Nat) (d : Ty0) (e : Int → Int → Int → Option α) (h : Option α) : Nat → Int → Nat → Nat → Nat → Nat → Nat → Nat → Ty1 → Ty0 → Option α
 | 0 => fun _ _ _ _ _ _ _ _ _ => none
 | m + 1 => fun i j l n o p q r s => g40l0b G85 G88 G59 a b c d e h (g40l0 G85 G88 G59 a b c d e h m) i j l n o p q r s
noncomputable def g40l0M {α : Type} (m : Nat) : S_g40l0 α :=
 fun a b c d e h i j l n o p q r s => g40l0 (g85 m) (g88 m) (g59 m) a b c d e h m i j l n o p q r s
def g40l0D : LoopD := { n := 42, low := [0], sl := [1, 2, 10, 11], bl := [0, 1000001, 1000002, 1000003], tp := [tI, tI, (.vl (.sv (.ptr 1000001 0))), tI], bp := [(false, [(.seqv rN)]), (true, [(.one (.slc 0 0 5)), (.one (.slc 1000002 0 1)), (.one (.gsl 1000003 2))]), (true, [(.rws mK)]), (true, [(.gro rP)])], xs := [(1, [6, 7, 8]), (2, [])] }
def g40l0K {α : Type} (L : S_g40l0 α) (ls : List Lf) (k : KEx α) : Option α :=
 L (lf ls 0).int (lf ls 1).int (lf ls 3).nat ((lf ls 4).lst rN)
  (fun c d e => k .ret (mkSt 42 [6, 7, 8] [(.vl (.sv (.int .i64 c))), (.vl (.sv (.int .i64 d))), (.vl (.sv (.int .i64 e)))] [0] [(false, [(.seq rN (lf ls 3).nat ((lf ls 4).lst rN))])]))
  (k .normal (mkSt 42 [] [] [0] [(false, [(.seq rN (lf ls 3).nat ((lf ls 4).lst rN))])]))
  (lf ls 2).int (lf ls 5).nat (lf ls 6).nat (lf ls 7).nat (lf ls 8).nat (lf ls 9).nat (lf ls 10).nat ((lf ls 11).rows mK) ((lf ls 12).lst rP)
def g40b {α : Type} (G75 : Al S_g75) (G76 : Al S_g76) (G85 : Al S_g85) (G88 : Al S_g88) (G59 : Al S_g59) (L40l0 : Al S_g40l0) (a b c : Nat) (d e : Int) (h : Nat) (i : Ty0) (j : Int → Int → Int → Option α) : Option α := G75 a b c d e h i (fun l => cond (l != (0 : Int)) (j (0 : Int) (0 : Int) l) (G76 a b c h i (fun n o => L40l0 d e h i (fun p q r => j p q r) (j (0 : Int) (0 : Int) (7 : Int)) (0 : Int) a b c 0 b b n o)))
noncomputable def g40 {α : Type} (m : Nat) : S_g40 α :=
 g40b (g75 m) (g76 m) (g85 m) (g88 m) (g59 m) (g40l0M m)
def g40tp : List TP := [(.vl (.sv (.slc 0 0 5))), tI, tI]
def g40bp : List BP := [(false, [(.seqv rN)])]
def g40K {α : Type} (G : S_g40 α) (ls : List Lf) (k : KRe α) : Option α :=
 G (lf ls 0).nat (lf ls 1).nat (lf ls 2).nat (lf ls 3).int (lf ls 4).int (lf ls 5).nat ((lf ls 6).lst rN)
  (fun a b c => k (.tup [(.sv (.int .i64 a)), (.sv (.int .i64 b)), (.sv (.int .i64 c))]) [[(.seq rN (lf ls 5).nat ((lf ls 6).lst rN))]] [])
def g40R {α : Type} (G : S_g40 α) := rowK g40tp g40bp (g40K G)
def g40hd (G75 : Al S_g75) (G76 : Al S_g76) (G85 : Al S_g85) (G88 : Al S_g88) (G59 : Al S_g59) (L40l0 : Al S_g40l0) : Hd where
 call := fun f args Bs k => cond (Nat.beq f 75) (g75R G75 args Bs k) (cond (Nat.beq f 76) (g76R G76 args Bs k) (cond (Nat.beq f 85) (g85R G85 args Bs k) (cond (Nat.beq f 88) (g88R G88 args Bs k) (cond (Nat.beq f 59) (g59R G59 args Bs k) (none)))))
 loop := fun id st k => cond (Nat.beq id 0) (loopH g40l0D (g40l0K L40l0) st k) (none)
 ro := fun f => cond (Nat.beq f 59) [0] (cond (Nat.beq f 75) [0] (cond (Nat.beq f 76) [0] (cond (Nat.beq f 85) [1] ([]))))
noncomputable def g40h (m : Nat) : Hd := g40hd (g75 m) (g76 m) (g85 m) (g88 m) (g59 m) (g40l0M m)
theorem g40l0Step (G75 : Al S_g75) (G76 : Al S_g76) (G85 : Al S_g85) (G88 : Al S_g88) (G59 : Al S_g59) (L40l0 : Al S_g40l0) {α : Type} (L : S_g40l0 α) (ls : List Lf) (k : KEx α) :
  g40l0K (fun a b c d e h i j l n o p q r s => g40l0b G85 G88 G59 a b c d e h (L a b c d e h) i j l n o p q r s) ls k = ev tab (g40hd G75 G76 G85 G88 G59 L40l0) (bodyAt Try.f40 0) (atHead g40l0D ls) (loopK g40l0D 0 (loopH g40l0D (g40l0K L)) k) := by kernel_rfl
theorem g40Main (G75 : Al S_g75) (G76 : Al S_g76) (G85 : Al S_g85) (G88 : Al S_g88) (G59 : Al S_g59) (L40l0 : Al S_g40l0) {α : Type} (ls : List Lf) (k : KRe α) :
  g40K (g40b G75 G76 G85 G88 G59 L40l0) ls k = evFun tab (g40hd G75 G76 G85 G88 G59 L40l0) Try.f40 (fT g40tp ls) (fB g40tp g40bp ls) k := by kernel_rfl
theorem g40Calls (m : Nat) : (g40h m).CallsOk Try.prog := (cok_cons (g75Ok m) (cok_cons (g76Ok m) (cok_cons (g85Ok m) (cok_cons (g88Ok m) (cok_cons (g59Ok m) cok_nil)))))
theorem g40l0Ok (m : Nat) (α : Type) (st : St) (k : KEx α) (r : α) (h : (g40h m).loop 0 st k = some r) :
  LoopS Try.prog 0 (bodyAt Try.f40 0) st k r :=
 lpk (F := fun n ls k => g40l0K (fun a b c d e i j l o q s t u v w => g40l0 (g85 m) (g88 m) (g59 m) a b c d e i n j l o q s t u v w) ls k) (g40Calls m) (lb0 (by kernel_rfl))
  (fun _ _ => rfl) (fun n ls k => g40l0Step (g75 m) (g76 m) (g85 m) (g88 m) (g59 m) (g40l0M m) (fun a b c d e i => g40l0 (g85 m) (g88 m) (g59 m) a b c d e i n) ls k) (n := m) h
theorem g40Ok (m : Nat) : RowOk Try.prog 40 (fun {α} => g40R (g40 m (α := α))) :=
 rwk (g40Calls m) (lo1 (by kernel_rfl) (g40l0Ok m))
  (fun _ => g40Main (g75 m) (g76 m) (g85 m) (g88 m) (g59 m) (g40l0M m))
abbrev S_g41 (α : Type) : Type := Nat → Nat → Nat → Int → Int → Nat → Ty0 → (Int → Int → Int → Option α) → Option α
abbrev S_g41l0 (α : Type) : Type := Int → Int → Int → Nat → Ty0 → (Option α) → Option α
def g41l0b {α : Type}   (a b c : Int) (d : Nat) (e : Ty0) (h i : Option α)  : Option α := cond (decide (c ≤ b)) (none) (h)
def g41l0 {α : Type}   (a b c : Int) (d : Nat) (e : Ty0) (h : Option α) : Nat → Option α
 | 0 => none
 | m + 1 => g41l0b a b c d e h (g41l0 a b c d e h m)
def g41l0M {α : Type} (m : Nat) : S_g41l0 α :=
 fun a b c d e h  => g41l0 a b c d e h m
def g41l0D : LoopD := { n := 48, low := [0], sl := [1, 2, 9, 11], bl := [0], tp := [tI, tI, (.vl (.sv .nilp)), tI], bp := [(false, [(.seqv rN)])], xs := [(2, [])] }
def g41l0K {α : Type} (L : S_g41l0 α) (ls : List Lf) (k : KEx α) : Option α :=
 L (lf ls 0).int (lf ls 1).int (lf ls 2).int (lf ls 3).nat ((lf ls 4).lst rN)
  (k .normal (mkSt 48 [] [] [0] [(false, [(.seq rN (lf ls 3).nat ((lf ls 4).lst rN))])]))
abbrev S_g41l0v1 (α : Type) : Type := Int → Int → Nat → Ty0 → (Int → Int → Int → Option α) → (Option α) → Int → Bool → Nat → Nat → Nat → Int → Ty4 → Ty0 → Option α
def g41l0v1b {α : Type} (G86 : Al S_g86) (G81 : Al S_g81) (G89 : Al S_g89) (G54 : Al S_g54)  (a b : Int) (c : Nat) (d : Ty0) (e : Int → Int → Int → Option α) (h : Option α) (i : Int → Bool → Nat → Nat → Nat → Int → Ty4 → Ty0 → Option α) (j : Int) (l : Bool) (n o p : Nat) (q : Int) (r : Ty4) (s : Ty0) : Option α := cond (decide (j ≤ b)) (G86 (IntKind.wrap .i16 a) j l n o p q c d r s (fun t u v w x y z a0 b0 c0 d0 => G81 v w x y z c d c0 d0 (fun e0 h0 => cond e0 (e (0 : Int) (0 : Int) h0) (G89 u [(2 : Int), 0, 0, 0, 0, 0] (fun i0 => cond (decide (i0 ≥ (0 : Int))) (G54 t u (fun j0 => e j0 j (0 : Int))) (i (IntKind.wrap .i64 (j + (1 : Int))) v w x y h0 c0 d0)))))) (h)
def g41l0v1 {α : Type} (G86 : Al S_g86) (G81 : Al S_g81) (G89 : Al S_g89) (G54 : Al S_g54)  (a b : Int) (c : Nat) (d : Ty0) (e : Int → Int → Int → Option α) (h : Option α) : Nat → Int → Bool → Nat → Nat → Nat → Int → Ty4 → Ty0 → Option α
 | 0 => fun _ _ _ _ _ _ _ _ => none
 | m + 1 => fun i j l n o p q r => g41l0v1b G86 G81 G89 G54 a b c d e h (g41l0v1 G86 G81 G89 G54 a b c d e h m) i j l n o p q r
noncomputable def g41l0v1M {α : Type} (m : Nat) : S_g41l0v1 α :=
 fun a b c d e h i j l n o p q r => g41l0v1 (g86 m) (g81 m) (g89 m) (g54 m) a b c d e h m i j l n o p q r
def g41l0v1D : LoopD := { n := 48, low := [0], sl := [1, 2, 9, 11], bl := [0, 1000001, 1000002, 1000003], tp := [tI, tI, (.vl (.sv (.ptr 1000001 0))), tI], bp := [(false, [(.seqv rN)]), (true, [(.one .bool), (.one (.slc 0 0 5)), (.one (.mpp 1000002)), (.one (.gsl 1000003 2)), (.one (.int .i64))]), (true, [(.mp rP mW)]), (true, [(.gro rP)])], xs := [(1, [6, 7, 8]), (2, [])] }
def g41l0v1K {α : Type} (L : S_g41l0v1 α) (ls : List Lf) (k : KEx α) : Option α :=
 L (lf ls 0).int (lf ls 1).int (lf ls 3).nat ((lf ls 4).lst rN)
  (fun c d e => k .ret (mkSt 48 [6, 7, 8] [(.vl (.sv (.int .i64 c))), (.vl (.sv (.int .i64 d))), (.vl (.sv (.int .i64 e)))] [0] [(false, [(.seq rN (lf ls 3).nat ((lf ls 4).lst rN))])]))
  (k .normal (mkSt 48 [] [] [0] [(false, [(.seq rN (lf ls 3).nat ((lf ls 4).lst rN))])]))
  (lf ls 2).int (lf ls 5).bool (lf ls 6).nat (lf ls 7).nat (lf ls 8).nat (lf ls 9).int ((lf ls 10).map rP mW) ((lf ls 11).lst rP)
def g41b {α : Type} (G79 : Al S_g79) (G86 : Al S_g86) (G81 : Al S_g81) (G89 : Al S_g89) (G54 : Al S_g54) (L41l0 : Al S_g41l0) (L41l0v1 : Al S_g41l0v1) (a b c : Nat) (d e : Int) (h : Nat) (i : Ty0) (j : Int → Int → Int → Option α) : Option α := G79 a b c e (64 : Int) 0 1 1 h i [d] (fun l => cond (l != (0 : Int)) (j (0 : Int) (0 : Int) l) (L41l0 d e (0 : Int) h i (j (0 : Int) (0 : Int) (7 : Int)))) (fun n o => L41l0v1 d e h i (fun p q r => j p q r) (j (0 : Int) (0 : Int) (7 : Int)) (0 : Int) false a b c (0 : Int) n o)
noncomputable def g41 {α : Type} (m : Nat) : S_g41 α :=
 g41b (g79 m) (g86 m) (g81 m) (g89 m) (g54 m) (g41l0M m) (g41l0v1M m)
def g41tp : List TP := [(.vl (.sv (.slc 0 0 5))), tI, tI]
def g41bp : List BP := [(false, [(.seqv rN)])]
def g41K {α : Type} (G : S_g41 α) (ls : List Lf) (k : KRe α) : Option α :=
 G (lf ls 0).nat (lf ls 1).nat (lf ls 2).nat (lf ls 3).int (lf ls 4).int (lf ls 5).nat ((lf ls 6).lst rN)
  (fun a b c => k (.tup [(.sv (.int .i64 a)), (.sv (.int .i64 b)), (.sv (.int .i64 c))]) [[(.seq rN (lf ls 5).nat ((lf ls 6).lst rN))]] [])
def g41R {α : Type} (G : S_g41 α) := rowK g41tp g41bp (g41K G)
def g41hd (G79 : Al S_g79) (G86 : Al S_g86) (G81 : Al S_g81) (G89 : Al S_g89) (G54 : Al S_g54) (L41l0 : Al S_g41l0) (L41l0v1 : Al S_g41l0v1) : Hd where
 call := fun f args Bs k => cond (Nat.beq f 79) (g79R G79 args Bs k) (cond (Nat.beq f 86) (g86R G86 args Bs k) (cond (Nat.beq f 81) (g81R G81 args Bs k) (cond (Nat.beq f 89) (g89R G89 args Bs k) (cond (Nat.beq f 54) (g54R G54 args Bs k) (none)))))
 loop := fun id st k => cond (Nat.beq id 0) (loopE g41l0D (g41l0K L41l0) (loopH g41l0v1D (g41l0v1K L41l0v1)) st k) (none)
 ro := fun f => cond (Nat.beq f 79) [0, 1] (cond (Nat.beq f 81) [1, 2, 3] (cond (Nat.beq f 86) [1] ([])))
noncomputable def g41h (m : Nat) : Hd := g41hd (g79 m) (g86 m) (g81 m) (g89 m) (g54 m) (g41l0M m) (g41l0v1M m)
theorem g41l0Step (G79 : Al S_g79) (G86 : Al S_g86) (G81 : Al S_g81) (G89 : Al S_g89) (G54 : Al S_g54) (L41l0 : Al S_g41l0) (L41l0v1 : Al S_g41l0v1) {α : Type} (L : S_g41l0 α) (ls : List Lf) (k : KEx α) :
  g41l0K (fun a b c d e h => g41l0b a b c d e h (L a b c d e h) ) ls k = ev tab (g41hd G79 G86 G81 G89 G54 L41l0 L41l0v1) (bodyAt Try.f41 0) (atHead g41l0D ls) (loopK g41l0D 0 (loopH g41l0D (g41l0K L)) k) := by kernel_rfl
theorem g41l0v1Step (G79 : Al S_g79) (G86 : Al S_g86) (G81 : Al S_g81) (G89 : Al S_g89) (G54 : Al S_g54) (L41l0 : Al S_g41l0) (L41l0v1 : Al S_g41l0v1) {α : Type} (L : S_g41l0v1 α) (ls : List Lf) (k : KEx α) :
  g41l0v1K (fun a b c d e h i j l n o p q r => g41l0v1b G86 G81 G89 G54 a b c d e h (L a b c d e h) i j l n o p q r) ls k = ev tab (g41hd G79 G86 G81 G89 G54 L41l0 L41l0v1) (bodyAt Try.f41 0) (atHead g41l0v1D ls) (loopK g41l0v1D 0 (loopH g41l0v1D (g41l0v1K L)) k) := by kernel_rfl
theorem g41Main (G79 : Al S_g79) (G86 : Al S_g86) (G81 : Al S_g81) (G89 : Al S_g89) (G54 : Al S_g54) (L41l0 : Al S_g41l0) (L41l0v1 : Al S_g41l0v1) {α : Type} (ls : List Lf) (k : KRe α) :
  g41K (g41b G79 G86 G81 G89 G54 L41l0 L41l0v1) ls k = evFun tab (g41hd G79 G86 G81 G89 G54 L41l0 L41l0v1) Try.f41 (fT g41tp ls) (fB g41tp g41bp ls) k := by kernel_rfl
theorem g41Calls (m : Nat) : (g41h m).CallsOk Try.prog := (cok_cons (g79Ok m) (cok_cons (g86Ok m) (cok_cons (g81Ok m) (cok_cons (g89Ok m) (cok_cons (g54Ok m) cok_nil)))))
theorem g41l0OkV (m : Nat) (α : Type) (st : St) (k : KEx α) (r : α) (h : loopH g41l0D (g41l0K (g41l0M m)) st k = some r) :
  LoopS Try.prog 0 (bodyAt Try.f41 0) st k r :=
 lpk (F := fun n ls k => g41l0K (fun a b c d e i => g41l0 a b c d e i n ) ls k) (g41Calls m) (lb0 (by kernel_rfl))
  (fun _ _ => rfl) (fun n ls k => g41l0Step (g79 m) (g86 m) (g81 m) (g89 m) (g54 m) (g41l0M m) (g41l0v1M m) (fun a b c d e i => g41l0 a b c d e i n) ls k) (n := m) h
theorem g41l0v1OkV (m : Nat) (α : Type) (st : St) (k : KEx α) (r : α) (h : loopH g41l0v1D (g41l0v1K (g41l0v1M m)) st k = some r) :
  LoopS Try.prog 0 (bodyAt Try.f41 0) st k r :=
 lpk (F := fun n ls k => g41l0v1K (fun a b c d e i j l o q s t u v => g41l0v1 (g86 m) (g81 m) (g89 m) (g54 m) a b c d e i n j l o q s t u v) ls k) (g41Calls m) (lb0 (by kernel_rfl))
  (fun _ _ => rfl) (fun n ls k => g41l0v1Step (g79 m) (g86 m) (g81 m) (g89 m) (g54 m) (g41l0M m) (g41l0v1M m) (fun a b c d e i => g41l0v1 (g86 m) (g81 m) (g89 m) (g54 m) a b c d e i n) ls k) (n := m) h
theorem g41l0Ok (m : Nat) (α : Type) (st : St) (k : KEx α) (r : α) (h : (g41h m).loop 0 st k = some r) :
  LoopS Try.prog 0 (bodyAt Try.f41 0) st k r := by
 replace h : (loopE g41l0D (g41l0K (g41l0M m)) (loopH g41l0v1D (g41l0v1K (g41l0v1M m)))) st k = some r := h
 exact (loop_else h).elim (fun h => g41l0OkV m α st k r h) (fun h => g41l0v1OkV m α st k r h)
theorem g41Ok (m : Nat) : RowOk Try.prog 41 (fun {α} => g41R (g41 m (α := α))) :=
 rwk (g41Calls m) (lo1 (by kernel_rfl) (g41l0Ok m))
  (fun _ => g41Main (g79 m) (g86 m) (g81 m) (g89 m) (g54 m) (g41l0M m) (g41l0v1M m))
abbrev S_g7 (α : Type) : Type := Nat → Nat → Nat → Int → Int → Nat → Ty0 → (Bool → Option α) → Option α
def g7b {α : Type} (G30 : Al S_g30) (G32 : Al S_g32) (G40 : Al S_g40) (G41 : Al S_g41) (G34 : Al S_g34)  (a b c : Nat) (d e : Int) (h : Nat) (i : Ty0) (j : Bool → Option α) : Option α := G30 a b c (1048576 : Int) h i (fun l => cond (decide (l < (0 : Int))) (j true) (G32 a b c h i (fun n => G40 0 b b d e b n (fun o p q => G32 a b c h i (fun r => G41 0 b b d e b r (fun s t u => cond (s != o) (j false) (cond (t != p) (j false) (cond (u != q) (j false) (G32 a b c h i (fun v => G34 0 b b 0 b b b r b v (fun w => cond (!w) (j false) (j true))))))))))))
noncomputable def g7 {α : Type} (m : Nat) : S_g7 α :=
 g7b (g30 m) (g32 m) (g40 m) (g41 m) (g34 m)
def g7tp : List TP := [(.vl (.sv (.sla 0 0 5))), tI, tI]
def g7bp : List BP := [(false, [(.seqv rN)])]
def g7K {α : Type} (G : S_g7 α) (ls : List Lf) (k : KRe α) : Option α :=
 G (lf ls 0).nat (lf ls 1).nat (lf ls 2).nat (lf ls 3).int (lf ls 4).int (lf ls 5).nat ((lf ls 6).lst rN)
  (fun a => k (.vl (.sv (.bool a))) [[(.seq rN (lf ls 5).nat ((lf ls 6).lst rN))]] [])
def g7hd (G30 : Al S_g30) (G32 : Al S_g32) (G40 : Al S_g40) (G41 : Al S_g41) (G34 : Al S_g34)  : Hd where
 call := fun f args Bs k => cond (Nat.beq f 30) (g30R G30 args Bs k) (cond (Nat.beq f 32) (g32R G32 args Bs k) (cond (Nat.beq f 40) (g40R G40 args Bs k) (cond (Nat.beq f 41) (g41R G41 args Bs k) (cond (Nat.beq f 34) (g34R G34 args Bs k) (none)))))
 loop := fun id st k => none
 ro := fun f => cond (Nat.beq f 30) [0] (cond (Nat.beq f 32) [0] (cond (Nat.beq f 34) [0, 1] (cond (Nat.beq f 40) [0] (cond (Nat.beq f 41) [0] ([])))))
noncomputable def g7h (m : Nat) : Hd := g7hd (g30 m) (g32 m) (g40 m) (g41 m) (g34 m)
theorem g7Main (G30 : Al S_g30) (G32 : Al S_g32) (G40 : Al S_g40) (G41 : Al S_g41) (G34 : Al S_g34)  {α : Type} (ls : List Lf) (k : KRe α) :
  g7K (g7b G30 G32 G40 G41 G34) ls k = evFun tab (g7hd G30 G32 G40 G41 G34) Try.f7 (fT g7tp ls) (fB g7tp g7bp ls) k := by kernel_rfl
theorem g7Calls (m : Nat) : (g7h m).CallsOk Try.prog := (cok_cons (g30Ok m) (cok_cons (g32Ok m) (cok_cons (g40Ok m) (cok_cons (g41Ok m) (cok_cons (g34Ok m) cok_nil)))))
theorem g7Fn (m : Nat) : FnOk Try.prog 7 g7tp g7bp (fun {α} => g7K (g7 m (α := α))) :=
 fnk (g7Calls m) (lo0 (by kernel_rfl))
  (fun _ => g7Main (g30 m) (g32 m) (g40 m) (g41 m) (g34 m))
end Go.Proofs.Ytlmmgjngihlpeaa.Sx
