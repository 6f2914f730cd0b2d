/- Functions. Printed by our own sx.py. -/
import Derived.Test.YtobejeiffgehfaaSxV0
namespace Go.Proofs.Ytobejeiffgehfaa.Sx
open Go
set_option linter.unusedVariables false
set_option maxRecDepth 100000
/-! ### g24: spec.IsWithin -/
def g24b {α : Type} (G_g46 : {α : Type} → Bool → (List Int) → (Bool → Option α) → Option α) (G_g58 : {α : Type} → Int → (Bool → Option α) → Option α) (G_g59 : {α : Type} → Bool → (List Int) → Int → (Bool → (List Int) → Int → Option α) → Option α) (G_g61 : {α : Type} → Bool → (List Int) → (Bool → Option α) → Option α) (G_g60 : {α : Type} → Bool → (List Int) → Bool → (List Int) → (Bool → (List Int) → Int → Option α) → Option α) (G_g62 : {α : Type} → Int → (Bool → (List Int) → Option α) → Option α) (G_g63 : {α : Type} → Bool → (List Int) → Bool → (List Int) → (Int → Option α) → Option α)  (q583 : Bool) (u584 : List Int) (q585 : Bool) (u586 : List Int) (p587 : Int) (p588 : Int) (k721 : Bool → Int → Option α) : Option α :=
  G_g46 q583 u584
    (fun b589 =>
      cond (!b589)
       (
        k721 false (1 : Int))
       (
        G_g46 q585 u586
          (fun b591 =>
            cond (!b591)
             (
              k721 false (1 : Int))
             (
              G_g58 p587
                (fun b602 =>
                  cond (!b602)
                   (
                    k721 false (2 : Int))
                   (
                    G_g58 p588
                      (fun b604 =>
                        cond (!b604)
                         (
                          k721 false (2 : Int))
                         (
                          G_g59 q583 u584 p588
                            (fun b679 l680 x681 =>
                              cond (x681 != (0 : Int))
                               (
                                k721 false x681)
                               (
                                G_g61 q585 u586
                                  (fun b688 =>
                                    G_g60 b679 l680 b688 u586
                                      (fun b689 l690 x691 =>
                                        cond (x691 != (0 : Int))
                                         (
                                          k721 false x691)
                                         (
                                          G_g62 (1 : Int)
                                            (fun b693 l694 =>
                                              G_g59 b693 l694 p588
                                                (fun b695 l696 x697 =>
                                                  G_g62 (1 : Int)
                                                    (fun b698 l699 =>
                                                      G_g60 b695 l696 b698 l699
                                                        (fun b700 l701 x702 =>
                                                          G_g63 false l690 b700 l701
                                                            (fun x719 =>
                                                              k721 (decide (x719 ≤ (0 : Int))) (0 : Int)))))))))))))))))))
def g24 {α : Type} (m : Nat) : Bool → (List Int) → Bool → (List Int) → Int → Int → (Bool → Int → Option α) → Option α :=
  g24b (g46 m) (g58 m) (g59 m) (g61 m) (g60 m) (g62 m) (g63 m)
def g24tp : List TP := [(.vl (.agg [(.one .bool), (.seq (.int .u32) 6)])), (.vl (.agg [(.one .bool), (.seq (.int .u32) 6)])), (.vl (.sv (.int .i64))), (.vl (.sv (.int .i64)))]
def g24bp : List BP := []
def g24K {α : Type} (G : Bool → (List Int) → Bool → (List Int) → Int → Int → (Bool → Int → Option α) → Option α) (ls : List Lf) (k : TV → List (List Seg) → List (List Seg) → Option α) : Option α :=
  G (lf ls 0).bool ((lf ls 1).lst (.int .u32)) (lf ls 2).bool ((lf ls 3).lst (.int .u32)) (lf ls 4).int (lf ls 5).int
    (fun y0 y1 => k (.tup [(.sv (.bool y0)), (.sv (.int .i64 y1))]) [] [])
def g24hd (G_g46 : {α : Type} → Bool → (List Int) → (Bool → Option α) → Option α) (G_g58 : {α : Type} → Int → (Bool → Option α) → Option α) (G_g59 : {α : Type} → Bool → (List Int) → Int → (Bool → (List Int) → Int → Option α) → Option α) (G_g61 : {α : Type} → Bool → (List Int) → (Bool → Option α) → Option α) (G_g60 : {α : Type} → Bool → (List Int) → Bool → (List Int) → (Bool → (List Int) → Int → Option α) → Option α) (G_g62 : {α : Type} → Int → (Bool → (List Int) → Option α) → Option α) (G_g63 : {α : Type} → Bool → (List Int) → Bool → (List Int) → (Int → Option α) → Option α)  : Hd where
  call := fun f args Bs k => cond (Nat.beq f 46) (rowK g46tp g46bp (g46K G_g46) args Bs k) (cond (Nat.beq f 58) (rowK g58tp g58bp (g58K G_g58) args Bs k) (cond (Nat.beq f 59) (rowK g59tp g59bp (g59K G_g59) args Bs k) (cond (Nat.beq f 61) (rowK g61tp g61bp (g61K G_g61) args Bs k) (cond (Nat.beq f 60) (rowK g60tp g60bp (g60K G_g60) args Bs k) (cond (Nat.beq f 62) (rowK g62tp g62bp (g62K G_g62) args Bs k) (cond (Nat.beq f 63) (rowK g63tp g63bp (g63K G_g63) args Bs k) (none)))))))
  loop := fun id st k => none
  ro := fun f => cond (Nat.beq f 46) [0] (cond (Nat.beq f 63) [0, 1] ([]))
def g24h (m : Nat) : Hd := g24hd (g46 m) (g58 m) (g59 m) (g61 m) (g60 m) (g62 m) (g63 m)
theorem g24Main (G_g46 : {α : Type} → Bool → (List Int) → (Bool → Option α) → Option α) (G_g58 : {α : Type} → Int → (Bool → Option α) → Option α) (G_g59 : {α : Type} → Bool → (List Int) → Int → (Bool → (List Int) → Int → Option α) → Option α) (G_g61 : {α : Type} → Bool → (List Int) → (Bool → Option α) → Option α) (G_g60 : {α : Type} → Bool → (List Int) → Bool → (List Int) → (Bool → (List Int) → Int → Option α) → Option α) (G_g62 : {α : Type} → Int → (Bool → (List Int) → Option α) → Option α) (G_g63 : {α : Type} → Bool → (List Int) → Bool → (List Int) → (Int → Option α) → Option α)  {α : Type} (ls : List Lf) (k : TV → List (List Seg) → List (List Seg) → Option α) :
    g24K (g24b G_g46 G_g58 G_g59 G_g61 G_g60 G_g62 G_g63) ls k = evFun tab (g24hd G_g46 G_g58 G_g59 G_g61 G_g60 G_g62 G_g63) Go.Proofs.Try.f24 (fillT g24tp ls).1 (fillB g24bp (fillT g24tp ls).2).1 k := by kernel_rfl
theorem g24Calls (m : Nat) : (g24h m).CallsOk Go.Proofs.Try.prog := (cok_cons (g46Ok m) (cok_cons (g58Ok m) (cok_cons (g59Ok m) (cok_cons (g61Ok m) (cok_cons (g60Ok m) (cok_cons (g62Ok m) (cok_cons (g63Ok m) cok_nil)))))))
theorem g24Fn (m : Nat) : FnOk Go.Proofs.Try.prog 24 g24tp g24bp (fun {α} => g24K (g24 (α := α) m)) :=
  fn_ok (tab := tab) (h := g24h m) (fn := Go.Proofs.Try.f24) (F := fun {α} => g24K (g24 (α := α) m)) tabOk (g24Calls m) mixed (by kernel_rfl) (by kernel_rfl) (fun c hc => by
    rw [bodyOf_some hc]
    exact loopsOk_of _ (fun p hp => by rw [show loopsOf (bodyOf Go.Proofs.Try.f24) = [] by kernel_rfl] at hp; cases hp))
    (fun α ls k => g24Main (g46 m) (g58 m) (g59 m) (g61 m) (g60 m) (g62 m) (g63 m) ls k)
theorem g24Ok (m : Nat) : RowOk Go.Proofs.Try.prog 24 (fun {α} => rowK g24tp g24bp (g24K (g24 (α := α) m))) := row_of (g24Fn m)

/-! ### g64: impl.within -/
def g64b {α : Type}   (p736 : Int) (p737 : Int) (p738 : Int) (k741 : Bool → Option α) : Option α :=
  cond (decide (p736 ≥ p737))
   (
    k741 (decide (p736 ≤ p738)))
   (
    k741 false)
def g64 {α : Type} (m : Nat) : Int → Int → Int → (Bool → Option α) → Option α :=
  g64b
def g64tp : List TP := [(.vl (.sv (.int .i64))), (.vl (.sv (.int .i64))), (.vl (.sv (.int .i64)))]
def g64bp : List BP := []
def g64K {α : Type} (G : Int → Int → Int → (Bool → Option α) → Option α) (ls : List Lf) (k : TV → List (List Seg) → List (List Seg) → Option α) : Option α :=
  G (lf ls 0).int (lf ls 1).int (lf ls 2).int
    (fun y0 => k (.vl (.sv (.bool y0))) [] [])
def g64hd   : Hd where
  call := fun f args Bs k => none
  loop := fun id st k => none
  ro := fun f => []
def g64h (m : Nat) : Hd := g64hd
theorem g64Main   {α : Type} (ls : List Lf) (k : TV → List (List Seg) → List (List Seg) → Option α) :
    g64K (g64b) ls k = evFun tab (g64hd) Go.Proofs.Try.f64 (fillT g64tp ls).1 (fillB g64bp (fillT g64tp ls).2).1 k := by kernel_rfl
theorem g64Calls (m : Nat) : (g64h m).CallsOk Go.Proofs.Try.prog := cok_nil
theorem g64Fn (m : Nat) : FnOk Go.Proofs.Try.prog 64 g64tp g64bp (fun {α} => g64K (g64 (α := α) m)) :=
  fn_ok (tab := tab) (h := g64h m) (fn := Go.Proofs.Try.f64) (F := fun {α} => g64K (g64 (α := α) m)) tabOk (g64Calls m) mixed (by kernel_rfl) (by kernel_rfl) (fun c hc => by
    rw [bodyOf_some hc]
    exact loopsOk_of _ (fun p hp => by rw [show loopsOf (bodyOf Go.Proofs.Try.f64) = [] by kernel_rfl] at hp; cases hp))
    (fun α ls k => g64Main ls k)
theorem g64Ok (m : Nat) : RowOk Go.Proofs.Try.prog 64 (fun {α} => rowK g64tp g64bp (g64K (g64 (α := α) m))) := row_of (g64Fn m)

/-! ### g103: math/bits.Len32 -/
def g103b {α : Type}   (p759 : Int) (k782 : Int → Option α) : Option α :=
  cond (decide (p759 ≥ (65536 : Int)))
   (
    let x761 : Int := Int.fdiv p759 (2 ^ 16)
    cond (decide (x761 ≥ (256 : Int)))
     (
      let x764 : Int := IntKind.wrap .u8 (Int.fdiv x761 (2 ^ 8))
      if 0 ≤ x764 ∧ x764 < strC0.size then
        k782 (IntKind.wrap .i64 ((24 : Int) + (IntKind.wrap .i64 (byteAt strC0 x764.toNat))))
      else
        none)
     (
      let x768 : Int := IntKind.wrap .u8 x761
      if 0 ≤ x768 ∧ x768 < strC0.size then
        k782 (IntKind.wrap .i64 ((16 : Int) + (IntKind.wrap .i64 (byteAt strC0 x768.toNat))))
      else
        none))
   (
    cond (decide (p759 ≥ (256 : Int)))
     (
      let x774 : Int := IntKind.wrap .u8 (Int.fdiv p759 (2 ^ 8))
      if 0 ≤ x774 ∧ x774 < strC0.size then
        k782 (IntKind.wrap .i64 ((8 : Int) + (IntKind.wrap .i64 (byteAt strC0 x774.toNat))))
      else
        none)
     (
      let x778 : Int := IntKind.wrap .u8 p759
      if 0 ≤ x778 ∧ x778 < strC0.size then
        k782 (IntKind.wrap .i64 ((0 : Int) + (IntKind.wrap .i64 (byteAt strC0 x778.toNat))))
      else
        none))
def g103 {α : Type} (m : Nat) : Int → (Int → Option α) → Option α :=
  g103b
def g103tp : List TP := [(.vl (.sv (.int .u32)))]
def g103bp : List BP := []
def g103K {α : Type} (G : Int → (Int → Option α) → Option α) (ls : List Lf) (k : TV → List (List Seg) → List (List Seg) → Option α) : Option α :=
  G (lf ls 0).int
    (fun y0 => k (.vl (.sv (.int .i64 y0))) [] [])
def g103hd   : Hd where
  call := fun f args Bs k => none
  loop := fun id st k => none
  ro := fun f => []
def g103h (m : Nat) : Hd := g103hd
theorem g103Main   {α : Type} (ls : List Lf) (k : TV → List (List Seg) → List (List Seg) → Option α) :
    g103K (g103b) ls k = evFun tab (g103hd) Go.Proofs.Try.f103 (fillT g103tp ls).1 (fillB g103bp (fillT g103tp ls).2).1 k := by kernel_rfl
theorem g103Calls (m : Nat) : (g103h m).CallsOk Go.Proofs.Try.prog := cok_nil
theorem g103Fn (m : Nat) : FnOk Go.Proofs.Try.prog 103 g103tp g103bp (fun {α} => g103K (g103 (α := α) m)) :=
  fn_ok (tab := tab) (h := g103h m) (fn := Go.Proofs.Try.f103) (F := fun {α} => g103K (g103 (α := α) m)) tabOk (g103Calls m) mixed (by kernel_rfl) (by kernel_rfl) (fun c hc => by
    rw [bodyOf_some hc]
    exact loopsOk_of _ (fun p hp => by rw [show loopsOf (bodyOf Go.Proofs.Try.f103) = [] by kernel_rfl] at hp; cases hp))
    (fun α ls k => g103Main ls k)
theorem g103Ok (m : Nat) : RowOk Go.Proofs.Try.prog 103 (fun {α} => rowK g103tp g103bp (g103K (g103 (α := α) m))) := row_of (g103Fn m)

/-! ### g93: (impl.size).bits -/
def g93l0b {α : Type} (G_g103 : {α : Type} → Int → (Int → Option α) → Option α)  (a753 : List Int) (k786 : Int → Option α) (k787 : Option α) (r788 : Int → Option α) (v752 : Int) : Option α :=
  cond (decide (v752 ≥ (0 : Int)))
   (
    if 0 ≤ v752 ∧ v752 < (6 : Nat) then
      if v752.toNat < 6 then
        cond ((List.getD a753 v752.toNat 0) != (0 : Int))
         (
          if 0 ≤ v752 ∧ v752 < (6 : Nat) then
            if v752.toNat < 6 then
              G_g103 (List.getD a753 v752.toNat 0)
                (fun x783 =>
                  k786 (IntKind.wrap .i64 ((IntKind.wrap .i64 ((32 : Int) * v752)) + x783)))
            else
              none
          else
            none)
         (
          r788 (IntKind.wrap .i64 (v752 - (1 : Int))))
      else
        none
    else
      none)
   (
    k787)
def g93l0 {α : Type} (G_g103 : {α : Type} → Int → (Int → Option α) → Option α)  (a753 : List Int) (k786 : Int → Option α) (k787 : Option α) : Nat → Int → Option α
  | 0 => fun _ => none
  | m + 1 => fun v752 => g93l0b G_g103 a753 k786 k787 (g93l0 G_g103 a753 k786 k787 m) v752
def g93l0M {α : Type} (m : Nat) : (List Int) → (Int → Option α) → (Option α) → Int → Option α :=
  fun a753 k786 k787 v752 => g93l0 (g103 m) a753 k786 k787 m v752
def g93l0D : LoopD := { n := 19, low := [], sl := [1, 3], bl := [1000000], tp := [(.vl (.sv (.ptr 1000000 0))), (.vl (.sv (.int .i64)))], bp := [(true, [(.seq (.int .u32) 6)])], xs := [(1, [2]), (2, [])] }
def g93l0K {α : Type} (L : (List Int) → (Int → Option α) → (Option α) → Int → Option α) (ls : List Lf) (k : Ex → St → Option α) : Option α :=
  L ((lf ls 1).lst (.int .u32))
    (fun y0 => k .ret (mkSt 19 [2] [(.vl (.sv (.int .i64 y0)))] [] []))
    (k .normal (mkSt 19 [] [] [] []))
    (lf ls 0).int
def g93b {α : Type} (G_g103 : {α : Type} → Int → (Int → Option α) → Option α) (L_g93l0 : {α : Type} → (List Int) → (Int → Option α) → (Option α) → Int → Option α) (u751 : List Int) (k790 : Int → Option α) : Option α :=
  L_g93l0 u751
    (fun x789 =>
      k790 x789)
    (
      k790 (0 : Int))
    (5 : Int)
def g93 {α : Type} (m : Nat) : (List Int) → (Int → Option α) → Option α :=
  g93b (g103 m) (g93l0M m)
def g93tp : List TP := [(.vl (.agg [(.seq (.int .u32) 6)]))]
def g93bp : List BP := []
def g93K {α : Type} (G : (List Int) → (Int → Option α) → Option α) (ls : List Lf) (k : TV → List (List Seg) → List (List Seg) → Option α) : Option α :=
  G ((lf ls 0).lst (.int .u32))
    (fun y0 => k (.vl (.sv (.int .i64 y0))) [] [])
def g93hd (G_g103 : {α : Type} → Int → (Int → Option α) → Option α) (L_g93l0 : {α : Type} → (List Int) → (Int → Option α) → (Option α) → Int → Option α) : Hd where
  call := fun f args Bs k => cond (Nat.beq f 103) (rowK g103tp g103bp (g103K G_g103) args Bs k) (none)
  loop := fun id st k => cond (Nat.beq id 0) (loopH g93l0D (g93l0K L_g93l0) st k) (none)
  ro := fun f => []
def g93h (m : Nat) : Hd := g93hd (g103 m) (g93l0M m)
theorem g93l0Step (G_g103 : {α : Type} → Int → (Int → Option α) → Option α) (L_g93l0 : {α : Type} → (List Int) → (Int → Option α) → (Option α) → Int → Option α) {α : Type} (L : (List Int) → (Int → Option α) → (Option α) → Int → Option α) (ls : List Lf) (k : Ex → St → Option α) :
    g93l0K (fun a753 k786 k787 v752 => g93l0b G_g103 a753 k786 k787 (L a753 k786 k787) v752) ls k = ev tab (g93hd G_g103 L_g93l0) (bodyAt Go.Proofs.Try.f93 0) (atHead g93l0D ls) (loopK g93l0D 0 (loopH g93l0D (g93l0K L)) k) := by kernel_rfl
theorem g93Main (G_g103 : {α : Type} → Int → (Int → Option α) → Option α) (L_g93l0 : {α : Type} → (List Int) → (Int → Option α) → (Option α) → Int → Option α) {α : Type} (ls : List Lf) (k : TV → List (List Seg) → List (List Seg) → Option α) :
    g93K (g93b G_g103 L_g93l0) ls k = evFun tab (g93hd G_g103 L_g93l0) Go.Proofs.Try.f93 (fillT g93tp ls).1 (fillB g93bp (fillT g93tp ls).2).1 k := by kernel_rfl
theorem g93Calls (m : Nat) : (g93h m).CallsOk Go.Proofs.Try.prog := (cok_cons (g103Ok m) cok_nil)
theorem g93l0Ok (m : Nat) (α : Type) (st : St) (k : Ex → St → Option α) (r : α) (h : (g93h m).loop 0 st k = some r) :
    ∃ e st', k e st' = some r ∧ CodeS Go.Proofs.Try.prog (.block 0 (.loop (bodyAt Go.Proofs.Try.f93 0))) st e st' :=
  loop_ok (tab := tab) (h := g93h m) (F := fun n ls k => g93l0K (fun a753 k786 k787 v752 => g93l0 (g103 m) a753 k786 k787 n v752) ls k) tabOk (g93Calls m) mixed (loopsOk_of _ (fun p hp => by rw [show loopsOf (bodyAt Go.Proofs.Try.f93 0) = [] by kernel_rfl] at hp; cases hp))
    (fun _ _ => rfl) (fun n ls k => g93l0Step (g103 m) (g93l0M m) (fun a753 k786 k787 => g93l0 (g103 m) a753 k786 k787 n) ls k) (n := m) h
theorem g93Fn (m : Nat) : FnOk Go.Proofs.Try.prog 93 g93tp g93bp (fun {α} => g93K (g93 (α := α) m)) :=
  fn_ok (tab := tab) (h := g93h m) (fn := Go.Proofs.Try.f93) (F := fun {α} => g93K (g93 (α := α) m)) tabOk (g93Calls m) mixed (by kernel_rfl) (by kernel_rfl) (fun c hc => by
    rw [bodyOf_some hc]
    exact loopsOk_of _ (fun p hp => by
    rw [show loopsOf (bodyOf Go.Proofs.Try.f93) = [(0, bodyAt Go.Proofs.Try.f93 0)] by kernel_rfl] at hp
    simp only [List.mem_cons, List.not_mem_nil, or_false] at hp
    rcases hp with rfl
    exact g93l0Ok m))
    (fun α ls k => g93Main (g103 m) (g93l0M m) ls k)
theorem g93Ok (m : Nat) : RowOk Go.Proofs.Try.prog 93 (fun {α} => rowK g93tp g93bp (g93K (g93 (α := α) m))) := row_of (g93Fn m)

/-! ### g68: (impl.size).up -/
def g68l0b {α : Type}   (v798 : Int) (v799 : Int) (a801 : List Int) (a802 : List Int) (k822 : (List Int) → Option α) (r823 : Int → (List Int) → Option α) (v800 : Int) (a803 : List Int) : Option α :=
  cond (decide (v800 ≥ v798))
   (
    let x805 : Int := IntKind.wrap .i64 (v800 - v798)
    if 0 ≤ x805 ∧ x805 < (6 : Nat) then
      if x805.toNat < 6 then
        if v799 < 0 then
          none
        else
          if 0 ≤ v800 ∧ v800 < (6 : Nat) then
            if v800.toNat < 6 then
              let l808 : List Int := List.set a803 (v800.toNat) (IntKind.wrap .u32 ((List.getD a801 x805.toNat 0) * 2 ^ (min v799.toNat 32)))
              cond (decide (v799 > (0 : Int)))
               (
                cond (decide (v800 > v798))
                 (
                  if 0 ≤ v800 ∧ v800 < (6 : Nat) then
                    if v800.toNat < 6 then
                      let x813 : Int := IntKind.wrap .i64 ((IntKind.wrap .i64 (v800 - v798)) - (1 : Int))
                      if 0 ≤ x813 ∧ x813 < (6 : Nat) then
                        if x813.toNat < 6 then
                          let x815 : Int := IntKind.wrap .i64 ((32 : Int) - v799)
                          if x815 < 0 then
                            none
                          else
                            if 0 ≤ v800 ∧ v800 < (6 : Nat) then
                              if v800.toNat < 6 then
                                r823 (IntKind.wrap .i64 (v800 - (1 : Int))) (List.set l808 (v800.toNat) (ibits .or .u32 (List.getD l808 v800.toNat 0) (Int.fdiv (List.getD a801 x813.toNat 0) (2 ^ (min x815.toNat 32)))))
                              else
                                none
                            else
                              none
                        else
                          none
                      else
                        none
                    else
                      none
                  else
                    none)
                 (
                  r823 (IntKind.wrap .i64 (v800 - (1 : Int))) l808))
               (
                r823 (IntKind.wrap .i64 (v800 - (1 : Int))) l808)
            else
              none
          else
            none
      else
        none
    else
      none)
   (
    k822 a803)
def g68l0 {α : Type}   (v798 : Int) (v799 : Int) (a801 : List Int) (a802 : List Int) (k822 : (List Int) → Option α) : Nat → Int → (List Int) → Option α
  | 0 => fun _ _ => none
  | m + 1 => fun v800 a803 => g68l0b v798 v799 a801 a802 k822 (g68l0 v798 v799 a801 a802 k822 m) v800 a803
def g68l0M {α : Type} (m : Nat) : Int → Int → (List Int) → (List Int) → ((List Int) → Option α) → Int → (List Int) → Option α :=
  fun v798 v799 a801 a802 k822 v800 a803 => g68l0 v798 v799 a801 a802 k822 m v800 a803
def g68l0D : LoopD := { n := 50, low := [], sl := [2, 4, 5, 6, 7, 8], bl := [1000000, 1000001, 1000002], tp := [(.vl (.sv (.ptr 1000000 0))), (.vl (.sv (.ptr 1000001 0))), (.vl (.sv (.ptr 1000002 0))), (.vl (.sv (.int .i64))), (.vl (.sv (.int .i64))), (.vl (.sv (.int .i64)))], bp := [(true, [(.seq (.int .u32) 6)]), (true, [(.seq (.int .u32) 6)]), (true, [(.seq (.int .u32) 6)])], xs := [(2, [4, 5])] }
def g68l0K {α : Type} (L : Int → Int → (List Int) → (List Int) → ((List Int) → Option α) → Int → (List Int) → Option α) (ls : List Lf) (k : Ex → St → Option α) : Option α :=
  L (lf ls 0).int (lf ls 1).int ((lf ls 3).lst (.int .u32)) ((lf ls 4).lst (.int .u32))
    (fun y1 => k .normal (mkSt 50 [4, 5] [(.vl (.sv (.ptr 1000000 0))), (.vl (.sv (.ptr 1000001 0)))] [1000000, 1000001] [(true, [(.seq (.int .u32) 6 ((lf ls 4).lst (.int .u32)))]), (true, [(.seq (.int .u32) 6 y1)])]))
    (lf ls 2).int ((lf ls 5).lst (.int .u32))
def g68b {α : Type}  (L_g68l0 : {α : Type} → Int → Int → (List Int) → (List Int) → ((List Int) → Option α) → Int → (List Int) → Option α) (u794 : List Int) (p795 : Int) (k825 : (List Int) → Option α) : Option α :=
  L_g68l0 (IntKind.wrap .i64 (Int.tdiv p795 (32 : Int))) (Int.tmod p795 (32 : Int)) u794 [0, 0, 0, 0, 0, 0]
    (fun l824 =>
      k825 l824)
    (5 : Int) [0, 0, 0, 0, 0, 0]
def g68 {α : Type} (m : Nat) : (List Int) → Int → ((List Int) → Option α) → Option α :=
  g68b (g68l0M m)
def g68tp : List TP := [(.vl (.agg [(.seq (.int .u32) 6)])), (.vl (.sv (.int .i64)))]
def g68bp : List BP := []
def g68K {α : Type} (G : (List Int) → Int → ((List Int) → Option α) → Option α) (ls : List Lf) (k : TV → List (List Seg) → List (List Seg) → Option α) : Option α :=
  G ((lf ls 0).lst (.int .u32)) (lf ls 1).int
    (fun y0 => k (.vl (.agg [(.seq (.int .u32) 6 y0)])) [] [])
def g68hd  (L_g68l0 : {α : Type} → Int → Int → (List Int) → (List Int) → ((List Int) → Option α) → Int → (List Int) → Option α) : Hd where
  call := fun f args Bs k => none
  loop := fun id st k => cond (Nat.beq id 0) (loopH g68l0D (g68l0K L_g68l0) st k) (none)
  ro := fun f => []
def g68h (m : Nat) : Hd := g68hd (g68l0M m)
theorem g68l0Step  (L_g68l0 : {α : Type} → Int → Int → (List Int) → (List Int) → ((List Int) → Option α) → Int → (List Int) → Option α) {α : Type} (L : Int → Int → (List Int) → (List Int) → ((List Int) → Option α) → Int → (List Int) → Option α) (ls : List Lf) (k : Ex → St → Option α) :
    g68l0K (fun v798 v799 a801 a802 k822 v800 a803 => g68l0b v798 v799 a801 a802 k822 (L v798 v799 a801 a802 k822) v800 a803) ls k = ev tab (g68hd L_g68l0) (bodyAt Go.Proofs.Try.f68 0) (atHead g68l0D ls) (loopK g68l0D 0 (loopH g68l0D (g68l0K L)) k) := by kernel_rfl
theorem g68Main  (L_g68l0 : {α : Type} → Int → Int → (List Int) → (List Int) → ((List Int) → Option α) → Int → (List Int) → Option α) {α : Type} (ls : List Lf) (k : TV → List (List Seg) → List (List Seg) → Option α) :
    g68K (g68b L_g68l0) ls k = evFun tab (g68hd L_g68l0) Go.Proofs.Try.f68 (fillT g68tp ls).1 (fillB g68bp (fillT g68tp ls).2).1 k := by kernel_rfl
theorem g68Calls (m : Nat) : (g68h m).CallsOk Go.Proofs.Try.prog := cok_nil
theorem g68l0Ok (m : Nat) (α : Type) (st : St) (k : Ex → St → Option α) (r : α) (h : (g68h m).loop 0 st k = some r) :
    ∃ e st', k e st' = some r ∧ CodeS Go.Proofs.Try.prog (.block 0 (.loop (bodyAt Go.Proofs.Try.f68 0))) st e st' :=
  loop_ok (tab := tab) (h := g68h m) (F := fun n ls k => g68l0K (fun v798 v799 a801 a802 k822 v800 a803 => g68l0 v798 v799 a801 a802 k822 n v800 a803) ls k) tabOk (g68Calls m) mixed (loopsOk_of _ (fun p hp => by rw [show loopsOf (bodyAt Go.Proofs.Try.f68 0) = [] by kernel_rfl] at hp; cases hp))
    (fun _ _ => rfl) (fun n ls k => g68l0Step (g68l0M m) (fun v798 v799 a801 a802 k822 => g68l0 v798 v799 a801 a802 k822 n) ls k) (n := m) h
theorem g68Fn (m : Nat) : FnOk Go.Proofs.Try.prog 68 g68tp g68bp (fun {α} => g68K (g68 (α := α) m)) :=
  fn_ok (tab := tab) (h := g68h m) (fn := Go.Proofs.Try.f68) (F := fun {α} => g68K (g68 (α := α) m)) tabOk (g68Calls m) mixed (by kernel_rfl) (by kernel_rfl) (fun c hc => by
    rw [bodyOf_some hc]
    exact loopsOk_of _ (fun p hp => by
    rw [show loopsOf (bodyOf Go.Proofs.Try.f68) = [(0, bodyAt Go.Proofs.Try.f68 0)] by kernel_rfl] at hp
    simp only [List.mem_cons, List.not_mem_nil, or_false] at hp
    rcases hp with rfl
    exact g68l0Ok m))
    (fun α ls k => g68Main (g68l0M m) ls k)
theorem g68Ok (m : Nat) : RowOk Go.Proofs.Try.prog 68 (fun {α} => rowK g68tp g68bp (g68K (g68 (α := α) m))) := row_of (g68Fn m)

/-! ### g66: (*impl.calc).up -/
def g66b {α : Type} (G_g93 : {α : Type} → (List Int) → (Int → Option α) → Option α) (G_g68 : {α : Type} → (List Int) → Int → ((List Int) → Option α) → Option α) (G_g84 : {α : Type} → Bool → (List Int) → (Bool → Option α) → Option α)  (q746 : Bool) (u747 : List Int) (p748 : Int) (q749 : Bool) (k828 : Bool → (List Int) → Bool → Option α) : Option α :=
  cond (decide (p748 > (191 : Int)))
   (
    k828 false [0, 0, 0, 0, 0, 0] true)
   (
    G_g93 u747
      (fun x791 =>
        cond (decide ((IntKind.wrap .i64 (x791 + p748)) > (192 : Int)))
         (
          k828 false [0, 0, 0, 0, 0, 0] true)
         (
          G_g68 u747 p748
            (fun l826 =>
              G_g84 q746 l826
                (fun b827 =>
                  k828 b827 l826 q749)))))
def g66 {α : Type} (m : Nat) : Bool → (List Int) → Int → Bool → (Bool → (List Int) → Bool → Option α) → Option α :=
  g66b (g93 m) (g68 m) (g84 m)
def g66tp : List TP := [(.vl (.sv (.ptr 0 0))), (.vl (.agg [(.one .bool), (.seq (.int .u32) 6)])), (.vl (.sv (.int .i64)))]
def g66bp : List BP := [(true, [(.one .bool)])]
def g66K {α : Type} (G : Bool → (List Int) → Int → Bool → (Bool → (List Int) → Bool → Option α) → Option α) (ls : List Lf) (k : TV → List (List Seg) → List (List Seg) → Option α) : Option α :=
  G (lf ls 0).bool ((lf ls 1).lst (.int .u32)) (lf ls 2).int (lf ls 3).bool
    (fun y0 y1 y2 => k (.vl (.agg [(.one (.bool y0)), (.seq (.int .u32) 6 y1)])) [[(.one (.bool y2))]] [])
def g66hd (G_g93 : {α : Type} → (List Int) → (Int → Option α) → Option α) (G_g68 : {α : Type} → (List Int) → Int → ((List Int) → Option α) → Option α) (G_g84 : {α : Type} → Bool → (List Int) → (Bool → Option α) → Option α)  : Hd where
  call := fun f args Bs k => cond (Nat.beq f 93) (rowK g93tp g93bp (g93K G_g93) args Bs k) (cond (Nat.beq f 68) (rowK g68tp g68bp (g68K G_g68) args Bs k) (cond (Nat.beq f 84) (rowK g84tp g84bp (g84K G_g84) args Bs k) (none)))
  loop := fun id st k => none
  ro := fun f => []
def g66h (m : Nat) : Hd := g66hd (g93 m) (g68 m) (g84 m)
theorem g66Main (G_g93 : {α : Type} → (List Int) → (Int → Option α) → Option α) (G_g68 : {α : Type} → (List Int) → Int → ((List Int) → Option α) → Option α) (G_g84 : {α : Type} → Bool → (List Int) → (Bool → Option α) → Option α)  {α : Type} (ls : List Lf) (k : TV → List (List Seg) → List (List Seg) → Option α) :
    g66K (g66b G_g93 G_g68 G_g84) ls k = evFun tab (g66hd G_g93 G_g68 G_g84) Go.Proofs.Try.f66 (fillT g66tp ls).1 (fillB g66bp (fillT g66tp ls).2).1 k := by kernel_rfl
theorem g66Calls (m : Nat) : (g66h m).CallsOk Go.Proofs.Try.prog := (cok_cons (g93Ok m) (cok_cons (g68Ok m) (cok_cons (g84Ok m) cok_nil)))
theorem g66Fn (m : Nat) : FnOk Go.Proofs.Try.prog 66 g66tp g66bp (fun {α} => g66K (g66 (α := α) m)) :=
  fn_ok (tab := tab) (h := g66h m) (fn := Go.Proofs.Try.f66) (F := fun {α} => g66K (g66 (α := α) m)) tabOk (g66Calls m) mixed (by kernel_rfl) (by kernel_rfl) (fun c hc => by
    rw [bodyOf_some hc]
    exact loopsOk_of _ (fun p hp => by rw [show loopsOf (bodyOf Go.Proofs.Try.f66) = [] by kernel_rfl] at hp; cases hp))
    (fun α ls k => g66Main (g93 m) (g68 m) (g84 m) ls k)
theorem g66Ok (m : Nat) : RowOk Go.Proofs.Try.prog 66 (fun {α} => rowK g66tp g66bp (g66K (g66 (α := α) m))) := row_of (g66Fn m)

/-! ### g92: impl.opposite -/
def g92b {α : Type} (G_g84 : {α : Type} → Bool → (List Int) → (Bool → Option α) → Option α)  (q837 : Bool) (u838 : List Int) (k841 : Bool → Option α) : Option α :=
  G_g84 (!q837) u838
    (fun b840 =>
      k841 b840)
def g92 {α : Type} (m : Nat) : Bool → (List Int) → (Bool → Option α) → Option α :=
  g92b (g84 m)
def g92tp : List TP := [(.vl (.agg [(.one .bool), (.seq (.int .u32) 6)]))]
def g92bp : List BP := []
def g92K {α : Type} (G : Bool → (List Int) → (Bool → Option α) → Option α) (ls : List Lf) (k : TV → List (List Seg) → List (List Seg) → Option α) : Option α :=
  G (lf ls 0).bool ((lf ls 1).lst (.int .u32))
    (fun y0 => k (.vl (.agg [(.one (.bool y0)), (.seq (.int .u32) 6 ((lf ls 1).lst (.int .u32)))])) [] [])
def g92hd (G_g84 : {α : Type} → Bool → (List Int) → (Bool → Option α) → Option α)  : Hd where
  call := fun f args Bs k => cond (Nat.beq f 84) (rowK g84tp g84bp (g84K G_g84) args Bs k) (none)
  loop := fun id st k => none
  ro := fun f => []
def g92h (m : Nat) : Hd := g92hd (g84 m)
theorem g92Main (G_g84 : {α : Type} → Bool → (List Int) → (Bool → Option α) → Option α)  {α : Type} (ls : List Lf) (k : TV → List (List Seg) → List (List Seg) → Option α) :
    g92K (g92b G_g84) ls k = evFun tab (g92hd G_g84) Go.Proofs.Try.f92 (fillT g92tp ls).1 (fillB g92bp (fillT g92tp ls).2).1 k := by kernel_rfl
theorem g92Calls (m : Nat) : (g92h m).CallsOk Go.Proofs.Try.prog := (cok_cons (g84Ok m) cok_nil)
theorem g92Fn (m : Nat) : FnOk Go.Proofs.Try.prog 92 g92tp g92bp (fun {α} => g92K (g92 (α := α) m)) :=
  fn_ok (tab := tab) (h := g92h m) (fn := Go.Proofs.Try.f92) (F := fun {α} => g92K (g92 (α := α) m)) tabOk (g92Calls m) mixed (by kernel_rfl) (by kernel_rfl) (fun c hc => by
    rw [bodyOf_some hc]
    exact loopsOk_of _ (fun p hp => by rw [show loopsOf (bodyOf Go.Proofs.Try.f92) = [] by kernel_rfl] at hp; cases hp))
    (fun α ls k => g92Main (g84 m) ls k)
theorem g92Ok (m : Nat) : RowOk Go.Proofs.Try.prog 92 (fun {α} => rowK g92tp g92bp (g92K (g92 (α := α) m))) := row_of (g92Fn m)

/-! ### g65: (*impl.calc).sub -/
def g65b {α : Type} (G_g92 : {α : Type} → Bool → (List Int) → (Bool → Option α) → Option α) (G_g53 : {α : Type} → Bool → (List Int) → Bool → (List Int) → Bool → (Bool → (List Int) → Bool → Option α) → Option α)  (q832 : Bool) (u833 : List Int) (q834 : Bool) (u835 : List Int) (q836 : Bool) (k846 : Bool → (List Int) → Bool → Option α) : Option α :=
  G_g92 q834 u835
    (fun b842 =>
      G_g53 q832 u833 b842 u835 q836
        (fun b843 l844 b845 =>
          k846 b843 l844 b845))
def g65 {α : Type} (m : Nat) : Bool → (List Int) → Bool → (List Int) → Bool → (Bool → (List Int) → Bool → Option α) → Option α :=
  g65b (g92 m) (g53 m)
def g65tp : List TP := [(.vl (.sv (.ptr 0 0))), (.vl (.agg [(.one .bool), (.seq (.int .u32) 6)])), (.vl (.agg [(.one .bool), (.seq (.int .u32) 6)]))]
def g65bp : List BP := [(true, [(.one .bool)])]
def g65K {α : Type} (G : Bool → (List Int) → Bool → (List Int) → Bool → (Bool → (List Int) → Bool → Option α) → Option α) (ls : List Lf) (k : TV → List (List Seg) → List (List Seg) → Option α) : Option α :=
  G (lf ls 0).bool ((lf ls 1).lst (.int .u32)) (lf ls 2).bool ((lf ls 3).lst (.int .u32)) (lf ls 4).bool
    (fun y0 y1 y2 => k (.vl (.agg [(.one (.bool y0)), (.seq (.int .u32) 6 y1)])) [[(.one (.bool y2))]] [])
def g65hd (G_g92 : {α : Type} → Bool → (List Int) → (Bool → Option α) → Option α) (G_g53 : {α : Type} → Bool → (List Int) → Bool → (List Int) → Bool → (Bool → (List Int) → Bool → Option α) → Option α)  : Hd where
  call := fun f args Bs k => cond (Nat.beq f 92) (rowK g92tp g92bp (g92K G_g92) args Bs k) (cond (Nat.beq f 53) (rowK g53tp g53bp (g53K G_g53) args Bs k) (none))
  loop := fun id st k => none
  ro := fun f => []
def g65h (m : Nat) : Hd := g65hd (g92 m) (g53 m)
theorem g65Main (G_g92 : {α : Type} → Bool → (List Int) → (Bool → Option α) → Option α) (G_g53 : {α : Type} → Bool → (List Int) → Bool → (List Int) → Bool → (Bool → (List Int) → Bool → Option α) → Option α)  {α : Type} (ls : List Lf) (k : TV → List (List Seg) → List (List Seg) → Option α) :
    g65K (g65b G_g92 G_g53) ls k = evFun tab (g65hd G_g92 G_g53) Go.Proofs.Try.f65 (fillT g65tp ls).1 (fillB g65bp (fillT g65tp ls).2).1 k := by kernel_rfl
theorem g65Calls (m : Nat) : (g65h m).CallsOk Go.Proofs.Try.prog := (cok_cons (g92Ok m) (cok_cons (g53Ok m) cok_nil))
theorem g65Fn (m : Nat) : FnOk Go.Proofs.Try.prog 65 g65tp g65bp (fun {α} => g65K (g65 (α := α) m)) :=
  fn_ok (tab := tab) (h := g65h m) (fn := Go.Proofs.Try.f65) (F := fun {α} => g65K (g65 (α := α) m)) tabOk (g65Calls m) mixed (by kernel_rfl) (by kernel_rfl) (fun c hc => by
    rw [bodyOf_some hc]
    exact loopsOk_of _ (fun p hp => by rw [show loopsOf (bodyOf Go.Proofs.Try.f65) = [] by kernel_rfl] at hp; cases hp))
    (fun α ls k => g65Main (g92 m) (g53 m) ls k)
theorem g65Ok (m : Nat) : RowOk Go.Proofs.Try.prog 65 (fun {α} => rowK g65tp g65bp (g65K (g65 (α := α) m))) := row_of (g65Fn m)

/-! ### g67: impl.one -/
def g67b {α : Type}    (k850 : (List Int) → Option α) : Option α :=
  k850 [(1 : Int), 0, 0, 0, 0, 0]
def g67 {α : Type} (m : Nat) : ((List Int) → Option α) → Option α :=
  g67b
def g67tp : List TP := []
def g67bp : List BP := []
def g67K {α : Type} (G : ((List Int) → Option α) → Option α) (ls : List Lf) (k : TV → List (List Seg) → List (List Seg) → Option α) : Option α :=
  G 
    (fun y0 => k (.vl (.agg [(.seq (.int .u32) 6 y0)])) [] [])
def g67hd   : Hd where
  call := fun f args Bs k => none
  loop := fun id st k => none
  ro := fun f => []
def g67h (m : Nat) : Hd := g67hd
theorem g67Main   {α : Type} (ls : List Lf) (k : TV → List (List Seg) → List (List Seg) → Option α) :
    g67K (g67b) ls k = evFun tab (g67hd) Go.Proofs.Try.f67 (fillT g67tp ls).1 (fillB g67bp (fillT g67tp ls).2).1 k := by kernel_rfl
theorem g67Calls (m : Nat) : (g67h m).CallsOk Go.Proofs.Try.prog := cok_nil
theorem g67Fn (m : Nat) : FnOk Go.Proofs.Try.prog 67 g67tp g67bp (fun {α} => g67K (g67 (α := α) m)) :=
  fn_ok (tab := tab) (h := g67h m) (fn := Go.Proofs.Try.f67) (F := fun {α} => g67K (g67 (α := α) m)) tabOk (g67Calls m) mixed (by kernel_rfl) (by kernel_rfl) (fun c hc => by
    rw [bodyOf_some hc]
    exact loopsOk_of _ (fun p hp => by rw [show loopsOf (bodyOf Go.Proofs.Try.f67) = [] by kernel_rfl] at hp; cases hp))
    (fun α ls k => g67Main ls k)
theorem g67Ok (m : Nat) : RowOk Go.Proofs.Try.prog 67 (fun {α} => rowK g67tp g67bp (g67K (g67 (α := α) m))) := row_of (g67Fn m)

/-! ### g25: impl.IsWithin -/
def g25b {α : Type} (G_g49 : {α : Type} → Bool → (List Int) → (Bool → Option α) → Option α) (G_g64 : {α : Type} → Int → Int → Int → (Bool → Option α) → Option α) (G_g66 : {α : Type} → Bool → (List Int) → Int → Bool → (Bool → (List Int) → Bool → Option α) → Option α) (G_g65 : {α : Type} → Bool → (List Int) → Bool → (List Int) → Bool → (Bool → (List Int) → Bool → Option α) → Option α) (G_g67 : {α : Type} → ((List Int) → Option α) → Option α) (G_g68 : {α : Type} → (List Int) → Int → ((List Int) → Option α) → Option α) (G_g69 : {α : Type} → (List Int) → (List Int) → ((List Int) → Bool → Option α) → Option α) (G_g70 : {α : Type} → (List Int) → (List Int) → (Int → Option α) → Option α)  (q726 : Bool) (u727 : List Int) (q728 : Bool) (u729 : List Int) (p730 : Int) (p731 : Int) (k858 : Bool → Int → Option α) : Option α :=
  G_g49 q726 u727
    (fun b732 =>
      cond (!b732)
       (
        k858 false (1 : Int))
       (
        G_g49 q728 u729
          (fun b734 =>
            cond (!b734)
             (
              k858 false (1 : Int))
             (
              G_g64 p730 (0 : Int) (64 : Int)
                (fun b742 =>
                  cond (!b742)
                   (
                    k858 false (2 : Int))
                   (
                    G_g64 p731 (0 : Int) (64 : Int)
                      (fun b744 =>
                        cond (!b744)
                         (
                          k858 false (2 : Int))
                         (
                          G_g66 q726 u727 p731 false
                            (fun b829 l830 b831 =>
                              G_g65 b829 l830 q728 u729 b831
                                (fun b847 l848 b849 =>
                                  cond b849
                                   (
                                    k858 false (3 : Int))
                                   (
                                    G_g67
                                      (fun l851 =>
                                        G_g68 l851 p731
                                          (fun l852 =>
                                            G_g67
                                              (fun l853 =>
                                                G_g69 l852 l853
                                                  (fun l854 b855 =>
                                                    G_g70 l848 l854
                                                      (fun x856 =>
                                                        k858 (decide (x856 ≤ (0 : Int))) (0 : Int)))))))))))))))))
def g25 {α : Type} (m : Nat) : Bool → (List Int) → Bool → (List Int) → Int → Int → (Bool → Int → Option α) → Option α :=
  g25b (g49 m) (g64 m) (g66 m) (g65 m) (g67 m) (g68 m) (g69 m) (g70 m)
def g25tp : List TP := [(.vl (.agg [(.one .bool), (.seq (.int .u32) 6)])), (.vl (.agg [(.one .bool), (.seq (.int .u32) 6)])), (.vl (.sv (.int .i64))), (.vl (.sv (.int .i64)))]
def g25bp : List BP := []
def g25K {α : Type} (G : Bool → (List Int) → Bool → (List Int) → Int → Int → (Bool → Int → Option α) → Option α) (ls : List Lf) (k : TV → List (List Seg) → List (List Seg) → Option α) : Option α :=
  G (lf ls 0).bool ((lf ls 1).lst (.int .u32)) (lf ls 2).bool ((lf ls 3).lst (.int .u32)) (lf ls 4).int (lf ls 5).int
    (fun y0 y1 => k (.tup [(.sv (.bool y0)), (.sv (.int .i64 y1))]) [] [])
def g25hd (G_g49 : {α : Type} → Bool → (List Int) → (Bool → Option α) → Option α) (G_g64 : {α : Type} → Int → Int → Int → (Bool → Option α) → Option α) (G_g66 : {α : Type} → Bool → (List Int) → Int → Bool → (Bool → (List Int) → Bool → Option α) → Option α) (G_g65 : {α : Type} → Bool → (List Int) → Bool → (List Int) → Bool → (Bool → (List Int) → Bool → Option α) → Option α) (G_g67 : {α : Type} → ((List Int) → Option α) → Option α) (G_g68 : {α : Type} → (List Int) → Int → ((List Int) → Option α) → Option α) (G_g69 : {α : Type} → (List Int) → (List Int) → ((List Int) → Bool → Option α) → Option α) (G_g70 : {α : Type} → (List Int) → (List Int) → (Int → Option α) → Option α)  : Hd where
  call := fun f args Bs k => cond (Nat.beq f 49) (rowK g49tp g49bp (g49K G_g49) args Bs k) (cond (Nat.beq f 64) (rowK g64tp g64bp (g64K G_g64) args Bs k) (cond (Nat.beq f 66) (rowK g66tp g66bp (g66K G_g66) args Bs k) (cond (Nat.beq f 65) (rowK g65tp g65bp (g65K G_g65) args Bs k) (cond (Nat.beq f 67) (rowK g67tp g67bp (g67K G_g67) args Bs k) (cond (Nat.beq f 68) (rowK g68tp g68bp (g68K G_g68) args Bs k) (cond (Nat.beq f 69) (rowK g69tp g69bp (g69K G_g69) args Bs k) (cond (Nat.beq f 70) (rowK g70tp g70bp (g70K G_g70) args Bs k) (none))))))))
  loop := fun id st k => none
  ro := fun f => []
def g25h (m : Nat) : Hd := g25hd (g49 m) (g64 m) (g66 m) (g65 m) (g67 m) (g68 m) (g69 m) (g70 m)
theorem g25Main (G_g49 : {α : Type} → Bool → (List Int) → (Bool → Option α) → Option α) (G_g64 : {α : Type} → Int → Int → Int → (Bool → Option α) → Option α) (G_g66 : {α : Type} → Bool → (List Int) → Int → Bool → (Bool → (List Int) → Bool → Option α) → Option α) (G_g65 : {α : Type} → Bool → (List Int) → Bool → (List Int) → Bool → (Bool → (List Int) → Bool → Option α) → Option α) (G_g67 : {α : Type} → ((List Int) → Option α) → Option α) (G_g68 : {α : Type} → (List Int) → Int → ((List Int) → Option α) → Option α) (G_g69 : {α : Type} → (List Int) → (List Int) → ((List Int) → Bool → Option α) → Option α) (G_g70 : {α : Type} → (List Int) → (List Int) → (Int → Option α) → Option α)  {α : Type} (ls : List Lf) (k : TV → List (List Seg) → List (List Seg) → Option α) :
    g25K (g25b G_g49 G_g64 G_g66 G_g65 G_g67 G_g68 G_g69 G_g70) ls k = evFun tab (g25hd G_g49 G_g64 G_g66 G_g65 G_g67 G_g68 G_g69 G_g70) Go.Proofs.Try.f25 (fillT g25tp ls).1 (fillB g25bp (fillT g25tp ls).2).1 k := by kernel_rfl
theorem g25Calls (m : Nat) : (g25h m).CallsOk Go.Proofs.Try.prog := (cok_cons (g49Ok m) (cok_cons (g64Ok m) (cok_cons (g66Ok m) (cok_cons (g65Ok m) (cok_cons (g67Ok m) (cok_cons (g68Ok m) (cok_cons (g69Ok m) (cok_cons (g70Ok m) cok_nil))))))))
theorem g25Fn (m : Nat) : FnOk Go.Proofs.Try.prog 25 g25tp g25bp (fun {α} => g25K (g25 (α := α) m)) :=
  fn_ok (tab := tab) (h := g25h m) (fn := Go.Proofs.Try.f25) (F := fun {α} => g25K (g25 (α := α) m)) tabOk (g25Calls m) mixed (by kernel_rfl) (by kernel_rfl) (fun c hc => by
    rw [bodyOf_some hc]
    exact loopsOk_of _ (fun p hp => by rw [show loopsOf (bodyOf Go.Proofs.Try.f25) = [] by kernel_rfl] at hp; cases hp))
    (fun α ls k => g25Main (g49 m) (g64 m) (g66 m) (g65 m) (g67 m) (g68 m) (g69 m) (g70 m) ls k)
theorem g25Ok (m : Nat) : RowOk Go.Proofs.Try.prog 25 (fun {α} => rowK g25tp g25bp (g25K (g25 (α := α) m))) := row_of (g25Fn m)

/-! ### g6: laws.FnExactIsWithin -/
def g6b {α : Type} (G_g19 : {α : Type} → Bool → (List Int) → ((List Int) → Option α) → Option α) (G_g24 : {α : Type} → Bool → (List Int) → Bool → (List Int) → Int → Int → (Bool → Int → Option α) → Option α) (G_g25 : {α : Type} → Bool → (List Int) → Bool → (List Int) → Int → Int → (Bool → Int → Option α) → Option α)  (q575 : Bool) (u576 : List Int) (q577 : Bool) (u578 : List Int) (p579 : Int) (p580 : Int) (k863 : Bool → Option α) : Option α :=
  G_g19 q575 u576
    (fun l581 =>
      G_g19 q577 u578
        (fun l582 =>
          G_g24 q575 l581 q577 l582 p579 p580
            (fun b722 x723 =>
              G_g19 q575 u576
                (fun l724 =>
                  G_g19 q577 u578
                    (fun l725 =>
                      G_g25 q575 l724 q577 l725 p579 p580
                        (fun b859 x860 =>
                          cond (!(b859 == b722))
                           (
                            k863 false)
                           (
                            cond (x860 != x723)
                             (
                              k863 false)
                             (
                              k863 true))))))))
def g6 {α : Type} (m : Nat) : Bool → (List Int) → Bool → (List Int) → Int → Int → (Bool → Option α) → Option α :=
  g6b (g19 m) (g24 m) (g25 m)
def g6tp : List TP := [(.vl (.agg [(.one .bool), (.seq (.int .u32) 6)])), (.vl (.agg [(.one .bool), (.seq (.int .u32) 6)])), (.vl (.sv (.int .i64))), (.vl (.sv (.int .i64)))]
def g6bp : List BP := []
def g6K {α : Type} (G : Bool → (List Int) → Bool → (List Int) → Int → Int → (Bool → Option α) → Option α) (ls : List Lf) (k : TV → List (List Seg) → List (List Seg) → Option α) : Option α :=
  G (lf ls 0).bool ((lf ls 1).lst (.int .u32)) (lf ls 2).bool ((lf ls 3).lst (.int .u32)) (lf ls 4).int (lf ls 5).int
    (fun y0 => k (.vl (.sv (.bool y0))) [] [])
def g6hd (G_g19 : {α : Type} → Bool → (List Int) → ((List Int) → Option α) → Option α) (G_g24 : {α : Type} → Bool → (List Int) → Bool → (List Int) → Int → Int → (Bool → Int → Option α) → Option α) (G_g25 : {α : Type} → Bool → (List Int) → Bool → (List Int) → Int → Int → (Bool → Int → Option α) → Option α)  : Hd where
  call := fun f args Bs k => cond (Nat.beq f 19) (rowK g19tp g19bp (g19K G_g19) args Bs k) (cond (Nat.beq f 24) (rowK g24tp g24bp (g24K G_g24) args Bs k) (cond (Nat.beq f 25) (rowK g25tp g25bp (g25K G_g25) args Bs k) (none)))
  loop := fun id st k => none
  ro := fun f => []
def g6h (m : Nat) : Hd := g6hd (g19 m) (g24 m) (g25 m)
theorem g6Main (G_g19 : {α : Type} → Bool → (List Int) → ((List Int) → Option α) → Option α) (G_g24 : {α : Type} → Bool → (List Int) → Bool → (List Int) → Int → Int → (Bool → Int → Option α) → Option α) (G_g25 : {α : Type} → Bool → (List Int) → Bool → (List Int) → Int → Int → (Bool → Int → Option α) → Option α)  {α : Type} (ls : List Lf) (k : TV → List (List Seg) → List (List Seg) → Option α) :
    g6K (g6b G_g19 G_g24 G_g25) ls k = evFun tab (g6hd G_g19 G_g24 G_g25) Go.Proofs.Try.f6 (fillT g6tp ls).1 (fillB g6bp (fillT g6tp ls).2).1 k := by kernel_rfl
theorem g6Calls (m : Nat) : (g6h m).CallsOk Go.Proofs.Try.prog := (cok_cons (g19Ok m) (cok_cons (g24Ok m) (cok_cons (g25Ok m) cok_nil)))
theorem g6Fn (m : Nat) : FnOk Go.Proofs.Try.prog 6 g6tp g6bp (fun {α} => g6K (g6 (α := α) m)) :=
  fn_ok (tab := tab) (h := g6h m) (fn := Go.Proofs.Try.f6) (F := fun {α} => g6K (g6 (α := α) m)) tabOk (g6Calls m) mixed (by kernel_rfl) (by kernel_rfl) (fun c hc => by
    rw [bodyOf_some hc]
    exact loopsOk_of _ (fun p hp => by rw [show loopsOf (bodyOf Go.Proofs.Try.f6) = [] by kernel_rfl] at hp; cases hp))
    (fun α ls k => g6Main (g19 m) (g24 m) (g25 m) ls k)
theorem g6Ok (m : Nat) : RowOk Go.Proofs.Try.prog 6 (fun {α} => rowK g6tp g6bp (g6K (g6 (α := α) m))) := row_of (g6Fn m)
end Go.Proofs.Ytobejeiffgehfaa.Sx
