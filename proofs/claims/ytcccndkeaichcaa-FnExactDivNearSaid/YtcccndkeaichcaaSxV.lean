/- Functions. Printed by our own sx.py. -/
import Derived.Test.YtcccndkeaichcaaSxV2
namespace Go.Proofs.Ytcccndkeaichcaa.Sx
open Go
set_option linter.unusedVariables false
set_option maxRecDepth 100000
/-! ### g21: laws.FnExactDivNear -/
def g21b {α : Type} (G_g23 : {α : Type} → Bool → (List Int) → ((List Int) → Option α) → Option α) (G_g43 : {α : Type} → Bool → (List Int) → Bool → (List Int) → (Bool → (List Int) → Int → Option α) → Option α) (G_g32 : {α : Type} → Bool → (List Int) → Bool → (List Int) → (Bool → (List Int) → Int → Option α) → Option α) (G_g27 : {α : Type} → Bool → (List Int) → Bool → (List Int) → (Bool → Option α) → Option α)  (q1991 : Bool) (u1992 : List Int) (q1993 : Bool) (u1994 : List Int) (k2073 : Bool → Option α) : Option α :=
  G_g23 q1991 u1992
    (fun l1995 =>
      G_g23 q1993 u1994
        (fun l1996 =>
          G_g43 q1991 l1995 q1993 l1996
            (fun b2027 l2028 x2029 =>
              G_g23 q1991 u1992
                (fun l2030 =>
                  G_g23 q1993 u1994
                    (fun l2031 =>
                      G_g32 q1991 l2030 q1993 l2031
                        (fun b2067 l2068 x2069 =>
                          G_g27 b2067 l2068 b2027 l2028
                            (fun b2070 =>
                              cond (!b2070)
                               (
                                k2073 false)
                               (
                                cond (x2069 != x2029)
                                 (
                                  k2073 false)
                                 (
                                  k2073 true)))))))))
def g21 {α : Type} (m : Nat) : Bool → (List Int) → Bool → (List Int) → (Bool → Option α) → Option α :=
  g21b (g23 m) (g43 m) (g32 m) (g27 m)
def g21tp : List TP := [(.vl (.agg [(.one .bool), (.seq (.int .u32) 6)])), (.vl (.agg [(.one .bool), (.seq (.int .u32) 6)]))]
def g21bp : List BP := []
def g21K {α : Type} (G : Bool → (List Int) → Bool → (List Int) → (Bool → Option α) → Option α) (ls : List Lf) (k : TV → List (List Seg) → List (List Seg) → Option α) : Option α :=
  G (lf ls 0).bool ((lf ls 1).lst (.int .u32)) (lf ls 2).bool ((lf ls 3).lst (.int .u32))
    (fun y0 => k (.vl (.sv (.bool y0))) [] [])
def g21hd (G_g23 : {α : Type} → Bool → (List Int) → ((List Int) → Option α) → Option α) (G_g43 : {α : Type} → Bool → (List Int) → Bool → (List Int) → (Bool → (List Int) → Int → Option α) → Option α) (G_g32 : {α : Type} → Bool → (List Int) → Bool → (List Int) → (Bool → (List Int) → Int → Option α) → Option α) (G_g27 : {α : Type} → Bool → (List Int) → Bool → (List Int) → (Bool → Option α) → Option α)  : Hd where
  call := fun f args Bs k => cond (Nat.beq f 23) (rowK g23tp g23bp (g23K G_g23) args Bs k) (cond (Nat.beq f 43) (rowK g43tp g43bp (g43K G_g43) args Bs k) (cond (Nat.beq f 32) (rowK g32tp g32bp (g32K G_g32) args Bs k) (cond (Nat.beq f 27) (rowK g27tp g27bp (g27K G_g27) args Bs k) (none))))
  loop := fun id st k => none
  ro := fun f => []
def g21h (m : Nat) : Hd := g21hd (g23 m) (g43 m) (g32 m) (g27 m)
theorem g21Main (G_g23 : {α : Type} → Bool → (List Int) → ((List Int) → Option α) → Option α) (G_g43 : {α : Type} → Bool → (List Int) → Bool → (List Int) → (Bool → (List Int) → Int → Option α) → Option α) (G_g32 : {α : Type} → Bool → (List Int) → Bool → (List Int) → (Bool → (List Int) → Int → Option α) → Option α) (G_g27 : {α : Type} → Bool → (List Int) → Bool → (List Int) → (Bool → Option α) → Option α)  {α : Type} (ls : List Lf) (k : TV → List (List Seg) → List (List Seg) → Option α) :
    g21K (g21b G_g23 G_g43 G_g32 G_g27) ls k = evFun tab (g21hd G_g23 G_g43 G_g32 G_g27) Go.Proofs.Try.f21 (fillT g21tp ls).1 (fillB g21bp (fillT g21tp ls).2).1 k := by kernel_rfl
theorem g21Calls (m : Nat) : (g21h m).CallsOk Go.Proofs.Try.prog := (cok_cons (g23Ok m) (cok_cons (g43Ok m) (cok_cons (g32Ok m) (cok_cons (g27Ok m) cok_nil))))
theorem g21Fn (m : Nat) : FnOk Go.Proofs.Try.prog 21 g21tp g21bp (fun {α} => g21K (g21 (α := α) m)) :=
  fn_ok (tab := tab) (h := g21h m) (fn := Go.Proofs.Try.f21) (F := fun {α} => g21K (g21 (α := α) m)) tabOk (g21Calls m) mixed (by kernel_rfl) (by kernel_rfl) (fun c hc => by
    rw [bodyOf_some hc]
    exact loopsOk_of _ (fun p hp => by rw [show loopsOf (bodyOf Go.Proofs.Try.f21) = [] by kernel_rfl] at hp; cases hp))
    (fun α ls k => g21Main (g23 m) (g43 m) (g32 m) (g27 m) ls k)
theorem g21Ok (m : Nat) : RowOk Go.Proofs.Try.prog 21 (fun {α} => rowK g21tp g21bp (g21K (g21 (α := α) m))) := row_of (g21Fn m)
end Go.Proofs.Ytcccndkeaichcaa.Sx
