/- Functions. Printed by our own sx.py. -/
import Derived.Test.YtlmmgjngihlpeaaDoorSxV1
namespace Go.Proofs.YtlmmgjngihlpeaaDoor.Sx
open Go
set_option linter.unusedVariables false
set_option maxRecDepth 100000
abbrev S_g72 (α : Type) : Type := Nat → Nat → Nat → Nat → Ty0 → (Int → Int → Int → ByteArray → ByteArray → Bool → Option α) → Option α
def g72b {α : Type} (G_g108 : {α : Type} → S_g108 α) (G_g74 : {α : Type} → S_g74 α) (G_g109 : {α : Type} → S_g109 α)  (m606 : Nat) (m607 : Nat) (m608 : Nat) (m609 : Nat) (u610 : Ty0) (k993 : Int → Int → Int → ByteArray → ByteArray → Bool → Option α) : Option α :=
  if 0 ≤ (0 : Int) ∧ (0 : Int) < (m607 : Nat) then
    if (m606 + 0) < m609 then
      G_g108 (List.getD u610 (m606 + 0) ⟨#[]⟩)
        (fun x627 =>
        G_g74 x627
        (fun b628 b629 b630 =>
        cond b630
        (
        cond b630
        (
        cond (x627 == (0 : Int))
        (
        k993 (0 : Int) (0 : Int) (0 : Int) (⟨#[]⟩ : ByteArray) (⟨#[]⟩ : ByteArray) false)
        (
        cond (((m607 : Nat) : Int) != (3 : Int))
        (
        k993 (0 : Int) (0 : Int) (0 : Int) (⟨#[]⟩ : ByteArray) (⟨#[]⟩ : ByteArray) false)
        (
        cond b630
        (
        if 0 ≤ (1 : Int) ∧ (1 : Int) < (m607 : Nat) then
        if (m606 + 1) < m609 then
        G_g109 (List.getD u610 (m606 + 1) ⟨#[]⟩)
        (fun x897 b898 =>
        if 0 ≤ (2 : Int) ∧ (2 : Int) < (m607 : Nat) then
        if (m606 + 2) < m609 then
        G_g109 (List.getD u610 (m606 + 2) ⟨#[]⟩)
        (fun x900 b901 =>
        cond b898
        (
        k993 x627 x897 x900 (⟨#[]⟩ : ByteArray) (⟨#[]⟩ : ByteArray) b901)
        (
        k993 x627 x897 x900 (⟨#[]⟩ : ByteArray) (⟨#[]⟩ : ByteArray) false))
        else
        none
        else
        none)
        else
        none
        else
        none)
        (
        cond b628
        (
        if 0 ≤ (1 : Int) ∧ (1 : Int) < (m607 : Nat) then
        if (m606 + 1) < m609 then
        let s902 : ByteArray := List.getD u610 (m606 + 1) ⟨#[]⟩
        cond b629
        (
        if 0 ≤ (2 : Int) ∧ (2 : Int) < (m607 : Nat) then
        if (m606 + 2) < m609 then
        k993 x627 (0 : Int) (0 : Int) s902 (List.getD u610 (m606 + 2) ⟨#[]⟩) true
        else
        none
        else
        none)
        (
        k993 x627 (0 : Int) (0 : Int) s902 (⟨#[]⟩ : ByteArray) true)
        else
        none
        else
        none)
        (
        cond b629
        (
        if 0 ≤ (2 : Int) ∧ (2 : Int) < (m607 : Nat) then
        if (m606 + 2) < m609 then
        k993 x627 (0 : Int) (0 : Int) (⟨#[]⟩ : ByteArray) (List.getD u610 (m606 + 2) ⟨#[]⟩) true
        else
        none
        else
        none)
        (
        k993 x627 (0 : Int) (0 : Int) (⟨#[]⟩ : ByteArray) (⟨#[]⟩ : ByteArray) true))))))
        (
        cond b629
        (
        cond (x627 == (0 : Int))
        (
        k993 (0 : Int) (0 : Int) (0 : Int) (⟨#[]⟩ : ByteArray) (⟨#[]⟩ : ByteArray) false)
        (
        cond (((m607 : Nat) : Int) != (3 : Int))
        (
        k993 (0 : Int) (0 : Int) (0 : Int) (⟨#[]⟩ : ByteArray) (⟨#[]⟩ : ByteArray) false)
        (
        cond b630
        (
        if 0 ≤ (1 : Int) ∧ (1 : Int) < (m607 : Nat) then
        if (m606 + 1) < m609 then
        G_g109 (List.getD u610 (m606 + 1) ⟨#[]⟩)
        (fun x908 b909 =>
        if 0 ≤ (2 : Int) ∧ (2 : Int) < (m607 : Nat) then
        if (m606 + 2) < m609 then
        G_g109 (List.getD u610 (m606 + 2) ⟨#[]⟩)
        (fun x911 b912 =>
        cond b909
        (
        k993 x627 x908 x911 (⟨#[]⟩ : ByteArray) (⟨#[]⟩ : ByteArray) b912)
        (
        k993 x627 x908 x911 (⟨#[]⟩ : ByteArray) (⟨#[]⟩ : ByteArray) false))
        else
        none
        else
        none)
        else
        none
        else
        none)
        (
        cond b628
        (
        if 0 ≤ (1 : Int) ∧ (1 : Int) < (m607 : Nat) then
        if (m606 + 1) < m609 then
        let s913 : ByteArray := List.getD u610 (m606 + 1) ⟨#[]⟩
        cond b629
        (
        if 0 ≤ (2 : Int) ∧ (2 : Int) < (m607 : Nat) then
        if (m606 + 2) < m609 then
        k993 x627 (0 : Int) (0 : Int) s913 (List.getD u610 (m606 + 2) ⟨#[]⟩) true
        else
        none
        else
        none)
        (
        k993 x627 (0 : Int) (0 : Int) s913 (⟨#[]⟩ : ByteArray) true)
        else
        none
        else
        none)
        (
        cond b629
        (
        if 0 ≤ (2 : Int) ∧ (2 : Int) < (m607 : Nat) then
        if (m606 + 2) < m609 then
        k993 x627 (0 : Int) (0 : Int) (⟨#[]⟩ : ByteArray) (List.getD u610 (m606 + 2) ⟨#[]⟩) true
        else
        none
        else
        none)
        (
        k993 x627 (0 : Int) (0 : Int) (⟨#[]⟩ : ByteArray) (⟨#[]⟩ : ByteArray) true))))))
        (
        cond (x627 == (0 : Int))
        (
        k993 (0 : Int) (0 : Int) (0 : Int) (⟨#[]⟩ : ByteArray) (⟨#[]⟩ : ByteArray) false)
        (
        cond (((m607 : Nat) : Int) != (2 : Int))
        (
        k993 (0 : Int) (0 : Int) (0 : Int) (⟨#[]⟩ : ByteArray) (⟨#[]⟩ : ByteArray) false)
        (
        cond b630
        (
        if 0 ≤ (1 : Int) ∧ (1 : Int) < (m607 : Nat) then
        if (m606 + 1) < m609 then
        G_g109 (List.getD u610 (m606 + 1) ⟨#[]⟩)
        (fun x919 b920 =>
        if 0 ≤ (2 : Int) ∧ (2 : Int) < (m607 : Nat) then
        if (m606 + 2) < m609 then
        G_g109 (List.getD u610 (m606 + 2) ⟨#[]⟩)
        (fun x922 b923 =>
        cond b920
        (
        k993 x627 x919 x922 (⟨#[]⟩ : ByteArray) (⟨#[]⟩ : ByteArray) b923)
        (
        k993 x627 x919 x922 (⟨#[]⟩ : ByteArray) (⟨#[]⟩ : ByteArray) false))
        else
        none
        else
        none)
        else
        none
        else
        none)
        (
        cond b628
        (
        if 0 ≤ (1 : Int) ∧ (1 : Int) < (m607 : Nat) then
        if (m606 + 1) < m609 then
        let s924 : ByteArray := List.getD u610 (m606 + 1) ⟨#[]⟩
        cond b629
        (
        if 0 ≤ (2 : Int) ∧ (2 : Int) < (m607 : Nat) then
        if (m606 + 2) < m609 then
        k993 x627 (0 : Int) (0 : Int) s924 (List.getD u610 (m606 + 2) ⟨#[]⟩) true
        else
        none
        else
        none)
        (
        k993 x627 (0 : Int) (0 : Int) s924 (⟨#[]⟩ : ByteArray) true)
        else
        none
        else
        none)
        (
        cond b629
        (
        if 0 ≤ (2 : Int) ∧ (2 : Int) < (m607 : Nat) then
        if (m606 + 2) < m609 then
        k993 x627 (0 : Int) (0 : Int) (⟨#[]⟩ : ByteArray) (List.getD u610 (m606 + 2) ⟨#[]⟩) true
        else
        none
        else
        none)
        (
        k993 x627 (0 : Int) (0 : Int) (⟨#[]⟩ : ByteArray) (⟨#[]⟩ : ByteArray) true))))))))
        (
        cond b628
        (
        cond b630
        (
        cond (x627 == (0 : Int))
        (
        k993 (0 : Int) (0 : Int) (0 : Int) (⟨#[]⟩ : ByteArray) (⟨#[]⟩ : ByteArray) false)
        (
        cond (((m607 : Nat) : Int) != (3 : Int))
        (
        k993 (0 : Int) (0 : Int) (0 : Int) (⟨#[]⟩ : ByteArray) (⟨#[]⟩ : ByteArray) false)
        (
        cond b630
        (
        if 0 ≤ (1 : Int) ∧ (1 : Int) < (m607 : Nat) then
        if (m606 + 1) < m609 then
        G_g109 (List.getD u610 (m606 + 1) ⟨#[]⟩)
        (fun x930 b931 =>
        if 0 ≤ (2 : Int) ∧ (2 : Int) < (m607 : Nat) then
        if (m606 + 2) < m609 then
        G_g109 (List.getD u610 (m606 + 2) ⟨#[]⟩)
        (fun x933 b934 =>
        cond b931
        (
        k993 x627 x930 x933 (⟨#[]⟩ : ByteArray) (⟨#[]⟩ : ByteArray) b934)
        (
        k993 x627 x930 x933 (⟨#[]⟩ : ByteArray) (⟨#[]⟩ : ByteArray) false))
        else
        none
        else
        none)
        else
        none
        else
        none)
        (
        cond b628
        (
        if 0 ≤ (1 : Int) ∧ (1 : Int) < (m607 : Nat) then
        if (m606 + 1) < m609 then
        let s935 : ByteArray := List.getD u610 (m606 + 1) ⟨#[]⟩
        cond b629
        (
        if 0 ≤ (2 : Int) ∧ (2 : Int) < (m607 : Nat) then
        if (m606 + 2) < m609 then
        k993 x627 (0 : Int) (0 : Int) s935 (List.getD u610 (m606 + 2) ⟨#[]⟩) true
        else
        none
        else
        none)
        (
        k993 x627 (0 : Int) (0 : Int) s935 (⟨#[]⟩ : ByteArray) true)
        else
        none
        else
        none)
        (
        cond b629
        (
        if 0 ≤ (2 : Int) ∧ (2 : Int) < (m607 : Nat) then
        if (m606 + 2) < m609 then
        k993 x627 (0 : Int) (0 : Int) (⟨#[]⟩ : ByteArray) (List.getD u610 (m606 + 2) ⟨#[]⟩) true
        else
        none
        else
        none)
        (
        k993 x627 (0 : Int) (0 : Int) (⟨#[]⟩ : ByteArray) (⟨#[]⟩ : ByteArray) true))))))
        (
        cond b629
        (
        cond (x627 == (0 : Int))
        (
        k993 (0 : Int) (0 : Int) (0 : Int) (⟨#[]⟩ : ByteArray) (⟨#[]⟩ : ByteArray) false)
        (
        cond (((m607 : Nat) : Int) != (3 : Int))
        (
        k993 (0 : Int) (0 : Int) (0 : Int) (⟨#[]⟩ : ByteArray) (⟨#[]⟩ : ByteArray) false)
        (
        cond b630
        (
        if 0 ≤ (1 : Int) ∧ (1 : Int) < (m607 : Nat) then
        if (m606 + 1) < m609 then
        G_g109 (List.getD u610 (m606 + 1) ⟨#[]⟩)
        (fun x941 b942 =>
        if 0 ≤ (2 : Int) ∧ (2 : Int) < (m607 : Nat) then
        if (m606 + 2) < m609 then
        G_g109 (List.getD u610 (m606 + 2) ⟨#[]⟩)
        (fun x944 b945 =>
        cond b942
        (
        k993 x627 x941 x944 (⟨#[]⟩ : ByteArray) (⟨#[]⟩ : ByteArray) b945)
        (
        k993 x627 x941 x944 (⟨#[]⟩ : ByteArray) (⟨#[]⟩ : ByteArray) false))
        else
        none
        else
        none)
        else
        none
        else
        none)
        (
        cond b628
        (
        if 0 ≤ (1 : Int) ∧ (1 : Int) < (m607 : Nat) then
        if (m606 + 1) < m609 then
        let s946 : ByteArray := List.getD u610 (m606 + 1) ⟨#[]⟩
        cond b629
        (
        if 0 ≤ (2 : Int) ∧ (2 : Int) < (m607 : Nat) then
        if (m606 + 2) < m609 then
        k993 x627 (0 : Int) (0 : Int) s946 (List.getD u610 (m606 + 2) ⟨#[]⟩) true
        else
        none
        else
        none)
        (
        k993 x627 (0 : Int) (0 : Int) s946 (⟨#[]⟩ : ByteArray) true)
        else
        none
        else
        none)
        (
        cond b629
        (
        if 0 ≤ (2 : Int) ∧ (2 : Int) < (m607 : Nat) then
        if (m606 + 2) < m609 then
        k993 x627 (0 : Int) (0 : Int) (⟨#[]⟩ : ByteArray) (List.getD u610 (m606 + 2) ⟨#[]⟩) true
        else
        none
        else
        none)
        (
        k993 x627 (0 : Int) (0 : Int) (⟨#[]⟩ : ByteArray) (⟨#[]⟩ : ByteArray) true))))))
        (
        cond (x627 == (0 : Int))
        (
        k993 (0 : Int) (0 : Int) (0 : Int) (⟨#[]⟩ : ByteArray) (⟨#[]⟩ : ByteArray) false)
        (
        cond (((m607 : Nat) : Int) != (2 : Int))
        (
        k993 (0 : Int) (0 : Int) (0 : Int) (⟨#[]⟩ : ByteArray) (⟨#[]⟩ : ByteArray) false)
        (
        cond b630
        (
        if 0 ≤ (1 : Int) ∧ (1 : Int) < (m607 : Nat) then
        if (m606 + 1) < m609 then
        G_g109 (List.getD u610 (m606 + 1) ⟨#[]⟩)
        (fun x952 b953 =>
        if 0 ≤ (2 : Int) ∧ (2 : Int) < (m607 : Nat) then
        if (m606 + 2) < m609 then
        G_g109 (List.getD u610 (m606 + 2) ⟨#[]⟩)
        (fun x955 b956 =>
        cond b953
        (
        k993 x627 x952 x955 (⟨#[]⟩ : ByteArray) (⟨#[]⟩ : ByteArray) b956)
        (
        k993 x627 x952 x955 (⟨#[]⟩ : ByteArray) (⟨#[]⟩ : ByteArray) false))
        else
        none
        else
        none)
        else
        none
        else
        none)
        (
        cond b628
        (
        if 0 ≤ (1 : Int) ∧ (1 : Int) < (m607 : Nat) then
        if (m606 + 1) < m609 then
        let s957 : ByteArray := List.getD u610 (m606 + 1) ⟨#[]⟩
        cond b629
        (
        if 0 ≤ (2 : Int) ∧ (2 : Int) < (m607 : Nat) then
        if (m606 + 2) < m609 then
        k993 x627 (0 : Int) (0 : Int) s957 (List.getD u610 (m606 + 2) ⟨#[]⟩) true
        else
        none
        else
        none)
        (
        k993 x627 (0 : Int) (0 : Int) s957 (⟨#[]⟩ : ByteArray) true)
        else
        none
        else
        none)
        (
        cond b629
        (
        if 0 ≤ (2 : Int) ∧ (2 : Int) < (m607 : Nat) then
        if (m606 + 2) < m609 then
        k993 x627 (0 : Int) (0 : Int) (⟨#[]⟩ : ByteArray) (List.getD u610 (m606 + 2) ⟨#[]⟩) true
        else
        none
        else
        none)
        (
        k993 x627 (0 : Int) (0 : Int) (⟨#[]⟩ : ByteArray) (⟨#[]⟩ : ByteArray) true))))))))
        (
        cond b630
        (
        cond (x627 == (0 : Int))
        (
        k993 (0 : Int) (0 : Int) (0 : Int) (⟨#[]⟩ : ByteArray) (⟨#[]⟩ : ByteArray) false)
        (
        cond (((m607 : Nat) : Int) != (2 : Int))
        (
        k993 (0 : Int) (0 : Int) (0 : Int) (⟨#[]⟩ : ByteArray) (⟨#[]⟩ : ByteArray) false)
        (
        cond b630
        (
        if 0 ≤ (1 : Int) ∧ (1 : Int) < (m607 : Nat) then
        if (m606 + 1) < m609 then
        G_g109 (List.getD u610 (m606 + 1) ⟨#[]⟩)
        (fun x963 b964 =>
        if 0 ≤ (2 : Int) ∧ (2 : Int) < (m607 : Nat) then
        if (m606 + 2) < m609 then
        G_g109 (List.getD u610 (m606 + 2) ⟨#[]⟩)
        (fun x966 b967 =>
        cond b964
        (
        k993 x627 x963 x966 (⟨#[]⟩ : ByteArray) (⟨#[]⟩ : ByteArray) b967)
        (
        k993 x627 x963 x966 (⟨#[]⟩ : ByteArray) (⟨#[]⟩ : ByteArray) false))
        else
        none
        else
        none)
        else
        none
        else
        none)
        (
        cond b628
        (
        if 0 ≤ (1 : Int) ∧ (1 : Int) < (m607 : Nat) then
        if (m606 + 1) < m609 then
        let s968 : ByteArray := List.getD u610 (m606 + 1) ⟨#[]⟩
        cond b629
        (
        if 0 ≤ (2 : Int) ∧ (2 : Int) < (m607 : Nat) then
        if (m606 + 2) < m609 then
        k993 x627 (0 : Int) (0 : Int) s968 (List.getD u610 (m606 + 2) ⟨#[]⟩) true
        else
        none
        else
        none)
        (
        k993 x627 (0 : Int) (0 : Int) s968 (⟨#[]⟩ : ByteArray) true)
        else
        none
        else
        none)
        (
        cond b629
        (
        if 0 ≤ (2 : Int) ∧ (2 : Int) < (m607 : Nat) then
        if (m606 + 2) < m609 then
        k993 x627 (0 : Int) (0 : Int) (⟨#[]⟩ : ByteArray) (List.getD u610 (m606 + 2) ⟨#[]⟩) true
        else
        none
        else
        none)
        (
        k993 x627 (0 : Int) (0 : Int) (⟨#[]⟩ : ByteArray) (⟨#[]⟩ : ByteArray) true))))))
        (
        cond b629
        (
        cond (x627 == (0 : Int))
        (
        k993 (0 : Int) (0 : Int) (0 : Int) (⟨#[]⟩ : ByteArray) (⟨#[]⟩ : ByteArray) false)
        (
        cond (((m607 : Nat) : Int) != (2 : Int))
        (
        k993 (0 : Int) (0 : Int) (0 : Int) (⟨#[]⟩ : ByteArray) (⟨#[]⟩ : ByteArray) false)
        (
        cond b630
        (
        if 0 ≤ (1 : Int) ∧ (1 : Int) < (m607 : Nat) then
        if (m606 + 1) < m609 then
        G_g109 (List.getD u610 (m606 + 1) ⟨#[]⟩)
        (fun x974 b975 =>
        if 0 ≤ (2 : Int) ∧ (2 : Int) < (m607 : Nat) then
        if (m606 + 2) < m609 then
        G_g109 (List.getD u610 (m606 + 2) ⟨#[]⟩)
        (fun x977 b978 =>
        cond b975
        (
        k993 x627 x974 x977 (⟨#[]⟩ : ByteArray) (⟨#[]⟩ : ByteArray) b978)
        (
        k993 x627 x974 x977 (⟨#[]⟩ : ByteArray) (⟨#[]⟩ : ByteArray) false))
        else
        none
        else
        none)
        else
        none
        else
        none)
        (
        cond b628
        (
        if 0 ≤ (1 : Int) ∧ (1 : Int) < (m607 : Nat) then
        if (m606 + 1) < m609 then
        let s979 : ByteArray := List.getD u610 (m606 + 1) ⟨#[]⟩
        cond b629
        (
        if 0 ≤ (2 : Int) ∧ (2 : Int) < (m607 : Nat) then
        if (m606 + 2) < m609 then
        k993 x627 (0 : Int) (0 : Int) s979 (List.getD u610 (m606 + 2) ⟨#[]⟩) true
        else
        none
        else
        none)
        (
        k993 x627 (0 : Int) (0 : Int) s979 (⟨#[]⟩ : ByteArray) true)
        else
        none
        else
        none)
        (
        cond b629
        (
        if 0 ≤ (2 : Int) ∧ (2 : Int) < (m607 : Nat) then
        if (m606 + 2) < m609 then
        k993 x627 (0 : Int) (0 : Int) (⟨#[]⟩ : ByteArray) (List.getD u610 (m606 + 2) ⟨#[]⟩) true
        else
        none
        else
        none)
        (
        k993 x627 (0 : Int) (0 : Int) (⟨#[]⟩ : ByteArray) (⟨#[]⟩ : ByteArray) true))))))
        (
        cond (x627 == (0 : Int))
        (
        k993 (0 : Int) (0 : Int) (0 : Int) (⟨#[]⟩ : ByteArray) (⟨#[]⟩ : ByteArray) false)
        (
        cond (((m607 : Nat) : Int) != (1 : Int))
        (
        k993 (0 : Int) (0 : Int) (0 : Int) (⟨#[]⟩ : ByteArray) (⟨#[]⟩ : ByteArray) false)
        (
        cond b630
        (
        if 0 ≤ (1 : Int) ∧ (1 : Int) < (m607 : Nat) then
        if (m606 + 1) < m609 then
        G_g109 (List.getD u610 (m606 + 1) ⟨#[]⟩)
        (fun x985 b986 =>
        if 0 ≤ (2 : Int) ∧ (2 : Int) < (m607 : Nat) then
        if (m606 + 2) < m609 then
        G_g109 (List.getD u610 (m606 + 2) ⟨#[]⟩)
        (fun x988 b989 =>
        cond b986
        (
        k993 x627 x985 x988 (⟨#[]⟩ : ByteArray) (⟨#[]⟩ : ByteArray) b989)
        (
        k993 x627 x985 x988 (⟨#[]⟩ : ByteArray) (⟨#[]⟩ : ByteArray) false))
        else
        none
        else
        none)
        else
        none
        else
        none)
        (
        cond b628
        (
        if 0 ≤ (1 : Int) ∧ (1 : Int) < (m607 : Nat) then
        if (m606 + 1) < m609 then
        let s990 : ByteArray := List.getD u610 (m606 + 1) ⟨#[]⟩
        cond b629
        (
        if 0 ≤ (2 : Int) ∧ (2 : Int) < (m607 : Nat) then
        if (m606 + 2) < m609 then
        k993 x627 (0 : Int) (0 : Int) s990 (List.getD u610 (m606 + 2) ⟨#[]⟩) true
        else
        none
        else
        none)
        (
        k993 x627 (0 : Int) (0 : Int) s990 (⟨#[]⟩ : ByteArray) true)
        else
        none
        else
        none)
        (
        cond b629
        (
        if 0 ≤ (2 : Int) ∧ (2 : Int) < (m607 : Nat) then
        if (m606 + 2) < m609 then
        k993 x627 (0 : Int) (0 : Int) (⟨#[]⟩ : ByteArray) (List.getD u610 (m606 + 2) ⟨#[]⟩) true
        else
        none
        else
        none)
        (
        k993 x627 (0 : Int) (0 : Int) (⟨#[]⟩ : ByteArray) (⟨#[]⟩ : ByteArray) true)))))))))))
    else
      none
  else
    none
def g72 {α : Type} (m : Nat) : S_g72 α :=
  g72b (g108 m) (g74 m) (g109 m)
def g72tp : List TP := [(.vl (.sv (.slc 0 0 1)))]
def g72bp : List BP := [(false, [(.seqv .str)])]
def g72K {α : Type} (G : S_g72 α) (ls : List Lf) (k : KRe α) : Option α :=
  G (lf ls 0).nat (lf ls 1).nat (lf ls 2).nat (lf ls 3).nat ((lf ls 4).lst .str)
    (fun y0 y1 y2 y3 y4 y5 => k (.tup [(.sv (.int .i8 y0)), (.sv (.int .i64 y1)), (.sv (.int .i64 y2)), (.sv (.str y3)), (.sv (.str y4)), (.sv (.bool y5))]) [[(.seq .str (lf ls 3).nat ((lf ls 4).lst .str))]] [])
def g72R {α : Type} (G : S_g72 α) := rowK g72tp g72bp (g72K G)
def g72hd (G_g108 : {α : Type} → S_g108 α) (G_g74 : {α : Type} → S_g74 α) (G_g109 : {α : Type} → S_g109 α)  : Hd where
  call := fun f args Bs k => cond (Nat.beq f 108) (g108R G_g108 args Bs k) (cond (Nat.beq f 74) (g74R G_g74 args Bs k) (cond (Nat.beq f 109) (g109R G_g109 args Bs k) (none)))
  loop := fun id st k => none
  ro := fun f => []
def g72h (m : Nat) : Hd := g72hd (g108 m) (g74 m) (g109 m)
theorem g72Main (G_g108 : {α : Type} → S_g108 α) (G_g74 : {α : Type} → S_g74 α) (G_g109 : {α : Type} → S_g109 α)  {α : Type} (ls : List Lf) (k : KRe α) :
    g72K (g72b G_g108 G_g74 G_g109) ls k = evFun tab (g72hd G_g108 G_g74 G_g109) Go.Proofs.Tryd.f72 (fillT g72tp ls).1 (fillB g72bp (fillT g72tp ls).2).1 k := by kernel_rfl
theorem g72Calls (m : Nat) : (g72h m).CallsOk Go.Proofs.Tryd.prog := (cok_cons (g108Ok m) (cok_cons (g74Ok m) (cok_cons (g109Ok m) cok_nil)))
theorem g72Fn (m : Nat) : FnOk Go.Proofs.Tryd.prog 72 g72tp g72bp (fun {α} => g72K (g72 m (α := α))) :=
  fn_ok (tab := tab) (h := g72h m) (fn := Go.Proofs.Tryd.f72) (F := fun {α} => g72K (g72 m (α := α))) tabOk (g72Calls m) mixed (by kernel_rfl) (by kernel_rfl) (fun c hc => by
    rw [bodyOf_some hc]
    exact loopsOk_of _ (fun p hp => by rw [show loopsOf (bodyOf Go.Proofs.Tryd.f72) = [] by kernel_rfl] at hp; cases hp))
    (fun α ls k => g72Main (g108 m) (g74 m) (g109 m) ls k)
theorem g72Ok (m : Nat) : RowOk Go.Proofs.Tryd.prog 72 (fun {α} => g72R (g72 m (α := α))) := row_of (g72Fn m)
abbrev S_g75 (α : Type) : Type := ByteArray → (Int → Option α) → Option α
def g75b {α : Type} (G_g109 : {α : Type} → S_g109 α) (G_g111 : {α : Type} → S_g111 α)  (z1004 : ByteArray) (k1011 : Int → Option α) : Option α :=
  G_g109 z1004
    (fun x1005 b1006 =>
      cond (!b1006)
       (
        k1011 (-1 : Int))
       (
        G_g111 x1005 (0 : Int) (1000 : Int)
        (fun b1008 =>
        cond (!b1008)
        (
        k1011 (-1 : Int))
        (
        k1011 (IntKind.wrap .i16 x1005)))))
def g75 {α : Type} (m : Nat) : S_g75 α :=
  g75b (g109 m) (g111 m)
def g75tp : List TP := [(.vl (.sv .str))]
def g75bp : List BP := []
def g75K {α : Type} (G : S_g75 α) (ls : List Lf) (k : KRe α) : Option α :=
  G (lf ls 0).str
    (fun y0 => k (.vl (.sv (.int .i16 y0))) [] [])
def g75R {α : Type} (G : S_g75 α) := rowK g75tp g75bp (g75K G)
def g75hd (G_g109 : {α : Type} → S_g109 α) (G_g111 : {α : Type} → S_g111 α)  : Hd where
  call := fun f args Bs k => cond (Nat.beq f 109) (g109R G_g109 args Bs k) (cond (Nat.beq f 111) (g111R G_g111 args Bs k) (none))
  loop := fun id st k => none
  ro := fun f => []
def g75h (m : Nat) : Hd := g75hd (g109 m) (g111 m)
theorem g75Main (G_g109 : {α : Type} → S_g109 α) (G_g111 : {α : Type} → S_g111 α)  {α : Type} (ls : List Lf) (k : KRe α) :
    g75K (g75b G_g109 G_g111) ls k = evFun tab (g75hd G_g109 G_g111) Go.Proofs.Tryd.f75 (fillT g75tp ls).1 (fillB g75bp (fillT g75tp ls).2).1 k := by kernel_rfl
theorem g75Calls (m : Nat) : (g75h m).CallsOk Go.Proofs.Tryd.prog := (cok_cons (g109Ok m) (cok_cons (g111Ok m) cok_nil))
theorem g75Fn (m : Nat) : FnOk Go.Proofs.Tryd.prog 75 g75tp g75bp (fun {α} => g75K (g75 m (α := α))) :=
  fn_ok (tab := tab) (h := g75h m) (fn := Go.Proofs.Tryd.f75) (F := fun {α} => g75K (g75 m (α := α))) tabOk (g75Calls m) mixed (by kernel_rfl) (by kernel_rfl) (fun c hc => by
    rw [bodyOf_some hc]
    exact loopsOk_of _ (fun p hp => by rw [show loopsOf (bodyOf Go.Proofs.Tryd.f75) = [] by kernel_rfl] at hp; cases hp))
    (fun α ls k => g75Main (g109 m) (g111 m) ls k)
theorem g75Ok (m : Nat) : RowOk Go.Proofs.Tryd.prog 75 (fun {α} => g75R (g75 m (α := α))) := row_of (g75Fn m)
abbrev S_g34 (α : Type) : Type := ByteArray → (Option α) → (Ty1 → Option α) → Option α
abbrev S_g34l0 (α : Type) : Type := Int → Int → Ty1 → (Option α) → Option α
def g34l0b {α : Type}   (v516 : Int) (v517 : Int) (a518 : Ty1) (k520 : Option α) (r521 : Option α)  : Option α :=
  cond (decide (v517 < v516))
   (
    none)
   (
    k520)
def g34l0 {α : Type}   (v516 : Int) (v517 : Int) (a518 : Ty1) (k520 : Option α) : Nat → Option α
  | 0 => none
  | m + 1 => g34l0b v516 v517 a518 k520 (g34l0 v516 v517 a518 k520 m)
def g34l0M {α : Type} (m : Nat) : S_g34l0 α :=
  fun v516 v517 a518 k520  => g34l0 v516 v517 a518 k520 m 
def g34l0D : LoopD := { n := 72, low := [], sl := [6, 27, 28, 29], bl := [1000000], tp := [(.vl (.sv (.gsl 1000000 5))), (.vl (.sv .nils)), (.vl (.sv (.int .i64))), (.vl (.sv (.int .i64)))], bp := [(true, [(.gro (.rc [.i8, .i16, .i16, .i64, .i64]))])], xs := [(2, [6])] }
def g34l0K {α : Type} (L : S_g34l0 α) (ls : List Lf) (k : KEx α) : Option α :=
  L (lf ls 0).int (lf ls 1).int ((lf ls 2).lst (.rc [.i8, .i16, .i16, .i64, .i64]))
    (k .normal (mkSt 72 [6] [(.vl (.sv (.gsl 1000000 5)))] [1000000] [(true, [(.gro (.rc [.i8, .i16, .i16, .i64, .i64]) ((lf ls 2).lst (.rc [.i8, .i16, .i16, .i64, .i64])))])]))
    
abbrev S_g34l0v1 (α : Type) : Type := Nat → Nat → Nat → Int → Nat → Ty0 → (Option α) → (Ty1 → Option α) → Int → Ty1 → Option α
def g34l0v1b {α : Type} (G_g73 : {α : Type} → S_g73 α) (G_g72 : {α : Type} → S_g72 α) (G_g74 : {α : Type} → S_g74 α) (G_g75 : {α : Type} → S_g75 α)  (m592 : Nat) (m593 : Nat) (m594 : Nat) (v595 : Int) (m598 : Nat) (a599 : Ty0) (k1023 : Option α) (k1024 : Ty1 → Option α) (r1025 : Int → Ty1 → Option α) (v596 : Int) (a597 : Ty1) : Option α :=
  cond (decide (v596 < v595))
   (
    if 0 ≤ v596 ∧ v596 < (m593 : Nat) then
      if (m592 + v596.toNat) < m598 then
        G_g73 (List.getD a599 (m592 + v596.toNat) ⟨#[]⟩) (⟨#[32]⟩ : ByteArray)
        (fun n602 n603 n604 l605 =>
        G_g72 0 n602 n603 n604 l605
        (fun x994 x995 x996 s997 s998 b999 =>
        cond (!b999)
        (
        k1023)
        (
        G_g74 x994
        (fun b1001 b1002 b1003 =>
        cond b1001
        (
        G_g75 s997
        (fun x1012 =>
        cond b1002
        (
        G_g75 s998
        (fun x1013 =>
        if a597.length + 1 ≤ 67108864 then
        r1025 (IntKind.wrap .i64 (v596 + (1 : Int))) (a597 ++ [[x994, x1012, x1013, x995, x996]])
        else
        none))
        (
        if a597.length + 1 ≤ 67108864 then
        r1025 (IntKind.wrap .i64 (v596 + (1 : Int))) (a597 ++ [[x994, x1012, (0 : Int), x995, x996]])
        else
        none)))
        (
        cond b1002
        (
        G_g75 s998
        (fun x1018 =>
        if a597.length + 1 ≤ 67108864 then
        r1025 (IntKind.wrap .i64 (v596 + (1 : Int))) (a597 ++ [[x994, (0 : Int), x1018, x995, x996]])
        else
        none))
        (
        if a597.length + 1 ≤ 67108864 then
        r1025 (IntKind.wrap .i64 (v596 + (1 : Int))) (a597 ++ [[x994, (0 : Int), (0 : Int), x995, x996]])
        else
        none))))))
      else
        none
    else
      none)
   (
    k1024 a597)
def g34l0v1 {α : Type} (G_g73 : {α : Type} → S_g73 α) (G_g72 : {α : Type} → S_g72 α) (G_g74 : {α : Type} → S_g74 α) (G_g75 : {α : Type} → S_g75 α)  (m592 : Nat) (m593 : Nat) (m594 : Nat) (v595 : Int) (m598 : Nat) (a599 : Ty0) (k1023 : Option α) (k1024 : Ty1 → Option α) : Nat → Int → Ty1 → Option α
  | 0 => fun _ _ => none
  | m + 1 => fun v596 a597 => g34l0v1b G_g73 G_g72 G_g74 G_g75 m592 m593 m594 v595 m598 a599 k1023 k1024 (g34l0v1 G_g73 G_g72 G_g74 G_g75 m592 m593 m594 v595 m598 a599 k1023 k1024 m) v596 a597
def g34l0v1M {α : Type} (m : Nat) : S_g34l0v1 α :=
  fun m592 m593 m594 v595 m598 a599 k1023 k1024 v596 a597 => g34l0v1 (g73 m) (g72 m) (g74 m) (g75 m) m592 m593 m594 v595 m598 a599 k1023 k1024 m v596 a597
def g34l0v1D : LoopD := { n := 72, low := [], sl := [6, 27, 28, 29], bl := [1000000, 1000001], tp := [(.vl (.sv (.gsl 1000000 5))), (.vl (.sv (.slc 1000001 0 1))), (.vl (.sv (.int .i64))), (.vl (.sv (.int .i64)))], bp := [(true, [(.gro (.rc [.i8, .i16, .i16, .i64, .i64]))]), (true, [(.seqv .str)])], xs := [(1, [2, 3]), (2, [6])] }
def g34l0v1K {α : Type} (L : S_g34l0v1 α) (ls : List Lf) (k : KEx α) : Option α :=
  L (lf ls 0).nat (lf ls 1).nat (lf ls 2).nat (lf ls 3).int (lf ls 6).nat ((lf ls 7).lst .str)
    (k .ret (mkSt 72 [2, 3] [(.vl (.sv .nils)), (.vl (.sv (.int .i64 (5 : Int))))] [] []))
    (fun y0 => k .normal (mkSt 72 [6] [(.vl (.sv (.gsl 1000000 5)))] [1000000] [(true, [(.gro (.rc [.i8, .i16, .i16, .i64, .i64]) y0)])]))
    (lf ls 4).int ((lf ls 5).lst (.rc [.i8, .i16, .i16, .i64, .i64]))
def g34b {α : Type} (G_g71 : {α : Type} → S_g71 α) (G_g40 : {α : Type} → S_g40 α) (G_g73 : {α : Type} → S_g73 α) (G_g72 : {α : Type} → S_g72 α) (G_g74 : {α : Type} → S_g74 α) (G_g75 : {α : Type} → S_g75 α) (L_g34l0 : {α : Type} → S_g34l0 α) (L_g34l0v1 : {α : Type} → S_g34l0v1 α) (z491 : ByteArray) (k1029 : Option α) (k1030 : Ty1 → Option α) : Option α :=
  G_g71 z491 (40 : Int)
    (fun b514 =>
      cond (!b514)
       (
        k1029)
       (
        L_g34l0 (0 : Int) (0 : Int) []
        (
        G_g40 []
        (fun b586 =>
        cond (!b586)
        (
        k1029)
        (
        k1030 [])))))
    (fun n588 n589 n590 l591 =>
      L_g34l0v1 0 n588 n589 ((n588 : Nat) : Int) n590 l591
        (
        k1029)
        (fun l1026 =>
        G_g40 l1026
        (fun b1027 =>
        cond (!b1027)
        (
        k1029)
        (
        k1030 l1026)))
        (0 : Int) [])
def g34 {α : Type} (m : Nat) : S_g34 α :=
  g34b (g71 m) (g40 m) (g73 m) (g72 m) (g74 m) (g75 m) (g34l0M m) (g34l0v1M m)
def g34tp : List TP := [(.vl (.sv .str))]
def g34bp : List BP := []
def g34K {α : Type} (G : S_g34 α) (ls : List Lf) (k : KRe α) : Option α :=
  G (lf ls 0).str
    (k (.tup [(.sv .nils), (.sv (.int .i64 (5 : Int)))]) [] [])
    (fun y1 => k (.tup [(.sv (.gsl 0 5)), (.sv (.int .i64 (0 : Int)))]) [] [[(.gro (.rc [.i8, .i16, .i16, .i64, .i64]) y1)]])
def g34R {α : Type} (G : S_g34 α) := rowK g34tp g34bp (g34K G)
def g34hd (G_g71 : {α : Type} → S_g71 α) (G_g40 : {α : Type} → S_g40 α) (G_g73 : {α : Type} → S_g73 α) (G_g72 : {α : Type} → S_g72 α) (G_g74 : {α : Type} → S_g74 α) (G_g75 : {α : Type} → S_g75 α) (L_g34l0 : {α : Type} → S_g34l0 α) (L_g34l0v1 : {α : Type} → S_g34l0v1 α) : Hd where
  call := fun f args Bs k => cond (Nat.beq f 71) (g71R G_g71 args Bs k) (cond (Nat.beq f 40) (g40R G_g40 args Bs k) (cond (Nat.beq f 73) (g73R G_g73 args Bs k) (cond (Nat.beq f 72) (g72R G_g72 args Bs k) (cond (Nat.beq f 74) (g74R G_g74 args Bs k) (cond (Nat.beq f 75) (g75R G_g75 args Bs k) (none))))))
  loop := fun id st k => cond (Nat.beq id 0) (loopE g34l0D (g34l0K L_g34l0) (loopH g34l0v1D (g34l0v1K L_g34l0v1)) st k) (none)
  ro := fun f => cond (Nat.beq f 40) [0] (cond (Nat.beq f 72) [0] ([]))
def g34h (m : Nat) : Hd := g34hd (g71 m) (g40 m) (g73 m) (g72 m) (g74 m) (g75 m) (g34l0M m) (g34l0v1M m)
theorem g34l0Step (G_g71 : {α : Type} → S_g71 α) (G_g40 : {α : Type} → S_g40 α) (G_g73 : {α : Type} → S_g73 α) (G_g72 : {α : Type} → S_g72 α) (G_g74 : {α : Type} → S_g74 α) (G_g75 : {α : Type} → S_g75 α) (L_g34l0 : {α : Type} → S_g34l0 α) (L_g34l0v1 : {α : Type} → S_g34l0v1 α) {α : Type} (L : S_g34l0 α) (ls : List Lf) (k : KEx α) :
    g34l0K (fun v516 v517 a518 k520 => g34l0b v516 v517 a518 k520 (L v516 v517 a518 k520) ) ls k = ev tab (g34hd G_g71 G_g40 G_g73 G_g72 G_g74 G_g75 L_g34l0 L_g34l0v1) (bodyAt Go.Proofs.Tryd.f34 0) (atHead g34l0D ls) (loopK g34l0D 0 (loopH g34l0D (g34l0K L)) k) := by kernel_rfl
theorem g34l0v1Step (G_g71 : {α : Type} → S_g71 α) (G_g40 : {α : Type} → S_g40 α) (G_g73 : {α : Type} → S_g73 α) (G_g72 : {α : Type} → S_g72 α) (G_g74 : {α : Type} → S_g74 α) (G_g75 : {α : Type} → S_g75 α) (L_g34l0 : {α : Type} → S_g34l0 α) (L_g34l0v1 : {α : Type} → S_g34l0v1 α) {α : Type} (L : S_g34l0v1 α) (ls : List Lf) (k : KEx α) :
    g34l0v1K (fun m592 m593 m594 v595 m598 a599 k1023 k1024 v596 a597 => g34l0v1b G_g73 G_g72 G_g74 G_g75 m592 m593 m594 v595 m598 a599 k1023 k1024 (L m592 m593 m594 v595 m598 a599 k1023 k1024) v596 a597) ls k = ev tab (g34hd G_g71 G_g40 G_g73 G_g72 G_g74 G_g75 L_g34l0 L_g34l0v1) (bodyAt Go.Proofs.Tryd.f34 0) (atHead g34l0v1D ls) (loopK g34l0v1D 0 (loopH g34l0v1D (g34l0v1K L)) k) := by kernel_rfl
theorem g34Main (G_g71 : {α : Type} → S_g71 α) (G_g40 : {α : Type} → S_g40 α) (G_g73 : {α : Type} → S_g73 α) (G_g72 : {α : Type} → S_g72 α) (G_g74 : {α : Type} → S_g74 α) (G_g75 : {α : Type} → S_g75 α) (L_g34l0 : {α : Type} → S_g34l0 α) (L_g34l0v1 : {α : Type} → S_g34l0v1 α) {α : Type} (ls : List Lf) (k : KRe α) :
    g34K (g34b G_g71 G_g40 G_g73 G_g72 G_g74 G_g75 L_g34l0 L_g34l0v1) ls k = evFun tab (g34hd G_g71 G_g40 G_g73 G_g72 G_g74 G_g75 L_g34l0 L_g34l0v1) Go.Proofs.Tryd.f34 (fillT g34tp ls).1 (fillB g34bp (fillT g34tp ls).2).1 k := by kernel_rfl
theorem g34Calls (m : Nat) : (g34h m).CallsOk Go.Proofs.Tryd.prog := (cok_cons (g71Ok m) (cok_cons (g40Ok m) (cok_cons (g73Ok m) (cok_cons (g72Ok m) (cok_cons (g74Ok m) (cok_cons (g75Ok m) cok_nil))))))
theorem g34l0OkV (m : Nat) (α : Type) (st : St) (k : KEx α) (r : α) (h : loopH g34l0D (g34l0K (g34l0M m)) st k = some r) :
    LoopS Go.Proofs.Tryd.prog 0 (bodyAt Go.Proofs.Tryd.f34 0) st k r :=
  loop_ok (tab := tab) (h := g34h m) (F := fun n ls k => g34l0K (fun v516 v517 a518 k520 => g34l0 v516 v517 a518 k520 n ) ls k) tabOk (g34Calls m) mixed (loopsOk_of _ (fun p hp => by rw [show loopsOf (bodyAt Go.Proofs.Tryd.f34 0) = [] by kernel_rfl] at hp; cases hp))
    (fun _ _ => rfl) (fun n ls k => g34l0Step (g71 m) (g40 m) (g73 m) (g72 m) (g74 m) (g75 m) (g34l0M m) (g34l0v1M m) (fun v516 v517 a518 k520 => g34l0 v516 v517 a518 k520 n) ls k) (n := m) h
theorem g34l0v1OkV (m : Nat) (α : Type) (st : St) (k : KEx α) (r : α) (h : loopH g34l0v1D (g34l0v1K (g34l0v1M m)) st k = some r) :
    LoopS Go.Proofs.Tryd.prog 0 (bodyAt Go.Proofs.Tryd.f34 0) st k r :=
  loop_ok (tab := tab) (h := g34h m) (F := fun n ls k => g34l0v1K (fun m592 m593 m594 v595 m598 a599 k1023 k1024 v596 a597 => g34l0v1 (g73 m) (g72 m) (g74 m) (g75 m) m592 m593 m594 v595 m598 a599 k1023 k1024 n v596 a597) ls k) tabOk (g34Calls m) mixed (loopsOk_of _ (fun p hp => by rw [show loopsOf (bodyAt Go.Proofs.Tryd.f34 0) = [] by kernel_rfl] at hp; cases hp))
    (fun _ _ => rfl) (fun n ls k => g34l0v1Step (g71 m) (g40 m) (g73 m) (g72 m) (g74 m) (g75 m) (g34l0M m) (g34l0v1M m) (fun m592 m593 m594 v595 m598 a599 k1023 k1024 => g34l0v1 (g73 m) (g72 m) (g74 m) (g75 m) m592 m593 m594 v595 m598 a599 k1023 k1024 n) ls k) (n := m) h
theorem g34l0Ok (m : Nat) (α : Type) (st : St) (k : KEx α) (r : α) (h : (g34h m).loop 0 st k = some r) :
    LoopS Go.Proofs.Tryd.prog 0 (bodyAt Go.Proofs.Tryd.f34 0) st k r := by
  replace h : (loopE g34l0D (g34l0K (g34l0M m)) (loopH g34l0v1D (g34l0v1K (g34l0v1M m)))) st k = some r := h
  exact (loop_else h).elim (fun h => g34l0OkV m α st k r h) (fun h => g34l0v1OkV m α st k r h)
theorem g34Fn (m : Nat) : FnOk Go.Proofs.Tryd.prog 34 g34tp g34bp (fun {α} => g34K (g34 m (α := α))) :=
  fn_ok (tab := tab) (h := g34h m) (fn := Go.Proofs.Tryd.f34) (F := fun {α} => g34K (g34 m (α := α))) tabOk (g34Calls m) mixed (by kernel_rfl) (by kernel_rfl) (fun c hc => by
    rw [bodyOf_some hc]
    exact loopsOk_of _ (fun p hp => by
    rw [show loopsOf (bodyOf Go.Proofs.Tryd.f34) = [(0, bodyAt Go.Proofs.Tryd.f34 0)] by kernel_rfl] at hp
    simp only [List.mem_cons, List.not_mem_nil, or_false] at hp
    rcases hp with rfl
    exact g34l0Ok m))
    (fun α ls k => g34Main (g71 m) (g40 m) (g73 m) (g72 m) (g74 m) (g75 m) (g34l0M m) (g34l0v1M m) ls k)
theorem g34Ok (m : Nat) : RowOk Go.Proofs.Tryd.prog 34 (fun {α} => g34R (g34 m (α := α))) := row_of (g34Fn m)
abbrev S_g11 (α : Type) : Type := Ty1 → (Bool → Option α) → Option α
abbrev S_g11l0 (α : Type) : Type := Int → Ty1 → (Option α) → Option α
def g11l0b {α : Type}   (v1033 : Int) (a1034 : Ty1) (k1036 : Option α) (r1037 : Option α)  : Option α :=
  cond (decide (v1033 < (0 : Int)))
   (
    none)
   (
    k1036)
def g11l0 {α : Type}   (v1033 : Int) (a1034 : Ty1) (k1036 : Option α) : Nat → Option α
  | 0 => none
  | m + 1 => g11l0b v1033 a1034 k1036 (g11l0 v1033 a1034 k1036 m)
def g11l0M {α : Type} (m : Nat) : S_g11l0 α :=
  fun v1033 a1034 k1036  => g11l0 v1033 a1034 k1036 m 
def g11l0D : LoopD := { n := 27, low := [0], sl := [0, 1, 5], bl := [0], tp := [(.vl (.sv .nils)), (.vl (.sv (.gsl 0 5))), (.vl (.sv (.int .i64)))], bp := [(false, [(.gro (.rc [.i8, .i16, .i16, .i64, .i64]))])], xs := [(2, [])] }
def g11l0K {α : Type} (L : S_g11l0 α) (ls : List Lf) (k : KEx α) : Option α :=
  L (lf ls 0).int ((lf ls 1).lst (.rc [.i8, .i16, .i16, .i64, .i64]))
    (k .normal (mkSt 27 [] [] [0] [(false, [(.gro (.rc [.i8, .i16, .i16, .i64, .i64]) ((lf ls 1).lst (.rc [.i8, .i16, .i16, .i64, .i64])))])]))
    
def g11b {α : Type}  (L_g11l0 : {α : Type} → S_g11l0 α) (u1031 : Ty1) (k1038 : Bool → Option α) : Option α :=
  cond ((0 : Int) != ((u1031.length : Nat) : Int))
   (
    k1038 false)
   (
    L_g11l0 (0 : Int) u1031
      (
        k1038 true))
def g11 {α : Type} (m : Nat) : S_g11 α :=
  g11b (g11l0M m)
def g11tp : List TP := [(.vl (.sv .nils)), (.vl (.sv (.gsl 0 5)))]
def g11bp : List BP := [(false, [(.gro (.rc [.i8, .i16, .i16, .i64, .i64]))])]
def g11K {α : Type} (G : S_g11 α) (ls : List Lf) (k : KRe α) : Option α :=
  G ((lf ls 0).lst (.rc [.i8, .i16, .i16, .i64, .i64]))
    (fun y0 => k (.vl (.sv (.bool y0))) [[(.gro (.rc [.i8, .i16, .i16, .i64, .i64]) ((lf ls 0).lst (.rc [.i8, .i16, .i16, .i64, .i64])))]] [])
def g11R {α : Type} (G : S_g11 α) := rowK g11tp g11bp (g11K G)
def g11hd  (L_g11l0 : {α : Type} → S_g11l0 α) : Hd where
  call := fun f args Bs k => none
  loop := fun id st k => cond (Nat.beq id 0) (loopH g11l0D (g11l0K L_g11l0) st k) (none)
  ro := fun f => []
def g11h (m : Nat) : Hd := g11hd (g11l0M m)
theorem g11l0Step  (L_g11l0 : {α : Type} → S_g11l0 α) {α : Type} (L : S_g11l0 α) (ls : List Lf) (k : KEx α) :
    g11l0K (fun v1033 a1034 k1036 => g11l0b v1033 a1034 k1036 (L v1033 a1034 k1036) ) ls k = ev tab (g11hd L_g11l0) (bodyAt Go.Proofs.Tryd.f11 0) (atHead g11l0D ls) (loopK g11l0D 0 (loopH g11l0D (g11l0K L)) k) := by kernel_rfl
theorem g11Main  (L_g11l0 : {α : Type} → S_g11l0 α) {α : Type} (ls : List Lf) (k : KRe α) :
    g11K (g11b L_g11l0) ls k = evFun tab (g11hd L_g11l0) Go.Proofs.Tryd.f11 (fillT g11tp ls).1 (fillB g11bp (fillT g11tp ls).2).1 k := by kernel_rfl
theorem g11Calls (m : Nat) : (g11h m).CallsOk Go.Proofs.Tryd.prog := cok_nil
theorem g11l0Ok (m : Nat) (α : Type) (st : St) (k : KEx α) (r : α) (h : (g11h m).loop 0 st k = some r) :
    LoopS Go.Proofs.Tryd.prog 0 (bodyAt Go.Proofs.Tryd.f11 0) st k r :=
  loop_ok (tab := tab) (h := g11h m) (F := fun n ls k => g11l0K (fun v1033 a1034 k1036 => g11l0 v1033 a1034 k1036 n ) ls k) tabOk (g11Calls m) mixed (loopsOk_of _ (fun p hp => by rw [show loopsOf (bodyAt Go.Proofs.Tryd.f11 0) = [] by kernel_rfl] at hp; cases hp))
    (fun _ _ => rfl) (fun n ls k => g11l0Step (g11l0M m) (fun v1033 a1034 k1036 => g11l0 v1033 a1034 k1036 n) ls k) (n := m) h
theorem g11Fn (m : Nat) : FnOk Go.Proofs.Tryd.prog 11 g11tp g11bp (fun {α} => g11K (g11 m (α := α))) :=
  fn_ok (tab := tab) (h := g11h m) (fn := Go.Proofs.Tryd.f11) (F := fun {α} => g11K (g11 m (α := α))) tabOk (g11Calls m) mixed (by kernel_rfl) (by kernel_rfl) (fun c hc => by
    rw [bodyOf_some hc]
    exact loopsOk_of _ (fun p hp => by
    rw [show loopsOf (bodyOf Go.Proofs.Tryd.f11) = [(0, bodyAt Go.Proofs.Tryd.f11 0)] by kernel_rfl] at hp
    simp only [List.mem_cons, List.not_mem_nil, or_false] at hp
    rcases hp with rfl
    exact g11l0Ok m))
    (fun α ls k => g11Main (g11l0M m) ls k)
theorem g11Ok (m : Nat) : RowOk Go.Proofs.Tryd.prog 11 (fun {α} => g11R (g11 m (α := α))) := row_of (g11Fn m)
abbrev S_g35 (α : Type) : Type := Int → (Option α) → Option α
abbrev S_g35l0 (α : Type) : Type := Int → Int → (Option α) → Option α
def g35l0b {α : Type}   (v1043 : Int) (v1044 : Int) (k1047 : Option α) (r1048 : Option α)  : Option α :=
  cond (decide (v1044 < (0 : Int)))
   (
    none)
   (
    k1047)
def g35l0 {α : Type}   (v1043 : Int) (v1044 : Int) (k1047 : Option α) : Nat → Option α
  | 0 => none
  | m + 1 => g35l0b v1043 v1044 k1047 (g35l0 v1043 v1044 k1047 m)
def g35l0M {α : Type} (m : Nat) : S_g35l0 α :=
  fun v1043 v1044 k1047  => g35l0 v1043 v1044 k1047 m 
def g35l0D : LoopD := { n := 51, low := [], sl := [0, 1, 5], bl := [], tp := [(.vl (.sv .nils)), (.vl (.sv (.int .i64))), (.vl (.sv (.int .i64)))], bp := [], xs := [(2, [1])] }
def g35l0K {α : Type} (L : S_g35l0 α) (ls : List Lf) (k : KEx α) : Option α :=
  L (lf ls 0).int (lf ls 1).int
    (k .normal (mkSt 51 [1] [(.vl (.sv (.int .i64 (lf ls 0).int)))] [] []))
    
def g35b {α : Type}  (L_g35l0 : {α : Type} → S_g35l0 α) (p1042 : Int) (k1049 : Option α) : Option α :=
  L_g35l0 p1042 (0 : Int)
    (
      k1049)
def g35 {α : Type} (m : Nat) : S_g35 α :=
  g35b (g35l0M m)
def g35tp : List TP := [(.vl (.sv .nils)), (.vl (.sv (.int .i64)))]
def g35bp : List BP := []
def g35K {α : Type} (G : S_g35 α) (ls : List Lf) (k : KRe α) : Option α :=
  G (lf ls 0).int
    (k (.vl (.sv (.int .i64 (lf ls 0).int))) [] [])
def g35R {α : Type} (G : S_g35 α) := rowK g35tp g35bp (g35K G)
def g35hd  (L_g35l0 : {α : Type} → S_g35l0 α) : Hd where
  call := fun f args Bs k => none
  loop := fun id st k => cond (Nat.beq id 0) (loopH g35l0D (g35l0K L_g35l0) st k) (none)
  ro := fun f => []
def g35h (m : Nat) : Hd := g35hd (g35l0M m)
theorem g35l0Step  (L_g35l0 : {α : Type} → S_g35l0 α) {α : Type} (L : S_g35l0 α) (ls : List Lf) (k : KEx α) :
    g35l0K (fun v1043 v1044 k1047 => g35l0b v1043 v1044 k1047 (L v1043 v1044 k1047) ) ls k = ev tab (g35hd L_g35l0) (bodyAt Go.Proofs.Tryd.f35 0) (atHead g35l0D ls) (loopK g35l0D 0 (loopH g35l0D (g35l0K L)) k) := by kernel_rfl
theorem g35Main  (L_g35l0 : {α : Type} → S_g35l0 α) {α : Type} (ls : List Lf) (k : KRe α) :
    g35K (g35b L_g35l0) ls k = evFun tab (g35hd L_g35l0) Go.Proofs.Tryd.f35 (fillT g35tp ls).1 (fillB g35bp (fillT g35tp ls).2).1 k := by kernel_rfl
theorem g35Calls (m : Nat) : (g35h m).CallsOk Go.Proofs.Tryd.prog := cok_nil
theorem g35l0Ok (m : Nat) (α : Type) (st : St) (k : KEx α) (r : α) (h : (g35h m).loop 0 st k = some r) :
    LoopS Go.Proofs.Tryd.prog 0 (bodyAt Go.Proofs.Tryd.f35 0) st k r :=
  loop_ok (tab := tab) (h := g35h m) (F := fun n ls k => g35l0K (fun v1043 v1044 k1047 => g35l0 v1043 v1044 k1047 n ) ls k) tabOk (g35Calls m) mixed (loopsOk_of _ (fun p hp => by rw [show loopsOf (bodyAt Go.Proofs.Tryd.f35 0) = [] by kernel_rfl] at hp; cases hp))
    (fun _ _ => rfl) (fun n ls k => g35l0Step (g35l0M m) (fun v1043 v1044 k1047 => g35l0 v1043 v1044 k1047 n) ls k) (n := m) h
theorem g35Fn (m : Nat) : FnOk Go.Proofs.Tryd.prog 35 g35tp g35bp (fun {α} => g35K (g35 m (α := α))) :=
  fn_ok (tab := tab) (h := g35h m) (fn := Go.Proofs.Tryd.f35) (F := fun {α} => g35K (g35 m (α := α))) tabOk (g35Calls m) mixed (by kernel_rfl) (by kernel_rfl) (fun c hc => by
    rw [bodyOf_some hc]
    exact loopsOk_of _ (fun p hp => by
    rw [show loopsOf (bodyOf Go.Proofs.Tryd.f35) = [(0, bodyAt Go.Proofs.Tryd.f35 0)] by kernel_rfl] at hp
    simp only [List.mem_cons, List.not_mem_nil, or_false] at hp
    rcases hp with rfl
    exact g35l0Ok m))
    (fun α ls k => g35Main (g35l0M m) ls k)
theorem g35Ok (m : Nat) : RowOk Go.Proofs.Tryd.prog 35 (fun {α} => g35R (g35 m (α := α))) := row_of (g35Fn m)
abbrev S_g36 (α : Type) : Type := Int → (Option α) → Option α
abbrev S_g36l0 (α : Type) : Type := Int → Int → (Option α) → Option α
def g36l0b {α : Type}   (v1051 : Int) (v1052 : Int) (k1054 : Option α) (r1055 : Option α)  : Option α :=
  cond (decide (v1052 < (0 : Int)))
   (
    none)
   (
    k1054)
def g36l0 {α : Type}   (v1051 : Int) (v1052 : Int) (k1054 : Option α) : Nat → Option α
  | 0 => none
  | m + 1 => g36l0b v1051 v1052 k1054 (g36l0 v1051 v1052 k1054 m)
def g36l0M {α : Type} (m : Nat) : S_g36l0 α :=
  fun v1051 v1052 k1054  => g36l0 v1051 v1052 k1054 m 
def g36l0D : LoopD := { n := 61, low := [], sl := [0, 1, 5], bl := [], tp := [(.vl (.sv .nils)), (.vl (.sv (.int .i64))), (.vl (.sv (.int .i64)))], bp := [], xs := [(2, [1])] }
def g36l0K {α : Type} (L : S_g36l0 α) (ls : List Lf) (k : KEx α) : Option α :=
  L (lf ls 0).int (lf ls 1).int
    (k .normal (mkSt 61 [1] [(.vl (.sv (.int .i64 (lf ls 0).int)))] [] []))
    
def g36b {α : Type}  (L_g36l0 : {α : Type} → S_g36l0 α) (p1050 : Int) (k1056 : Option α) : Option α :=
  L_g36l0 p1050 (0 : Int)
    (
      k1056)
def g36 {α : Type} (m : Nat) : S_g36 α :=
  g36b (g36l0M m)
def g36tp : List TP := [(.vl (.sv .nils)), (.vl (.sv (.int .i64)))]
def g36bp : List BP := []
def g36K {α : Type} (G : S_g36 α) (ls : List Lf) (k : KRe α) : Option α :=
  G (lf ls 0).int
    (k (.vl (.sv (.int .i64 (lf ls 0).int))) [] [])
def g36R {α : Type} (G : S_g36 α) := rowK g36tp g36bp (g36K G)
def g36hd  (L_g36l0 : {α : Type} → S_g36l0 α) : Hd where
  call := fun f args Bs k => none
  loop := fun id st k => cond (Nat.beq id 0) (loopH g36l0D (g36l0K L_g36l0) st k) (none)
  ro := fun f => []
def g36h (m : Nat) : Hd := g36hd (g36l0M m)
theorem g36l0Step  (L_g36l0 : {α : Type} → S_g36l0 α) {α : Type} (L : S_g36l0 α) (ls : List Lf) (k : KEx α) :
    g36l0K (fun v1051 v1052 k1054 => g36l0b v1051 v1052 k1054 (L v1051 v1052 k1054) ) ls k = ev tab (g36hd L_g36l0) (bodyAt Go.Proofs.Tryd.f36 0) (atHead g36l0D ls) (loopK g36l0D 0 (loopH g36l0D (g36l0K L)) k) := by kernel_rfl
theorem g36Main  (L_g36l0 : {α : Type} → S_g36l0 α) {α : Type} (ls : List Lf) (k : KRe α) :
    g36K (g36b L_g36l0) ls k = evFun tab (g36hd L_g36l0) Go.Proofs.Tryd.f36 (fillT g36tp ls).1 (fillB g36bp (fillT g36tp ls).2).1 k := by kernel_rfl
theorem g36Calls (m : Nat) : (g36h m).CallsOk Go.Proofs.Tryd.prog := cok_nil
theorem g36l0Ok (m : Nat) (α : Type) (st : St) (k : KEx α) (r : α) (h : (g36h m).loop 0 st k = some r) :
    LoopS Go.Proofs.Tryd.prog 0 (bodyAt Go.Proofs.Tryd.f36 0) st k r :=
  loop_ok (tab := tab) (h := g36h m) (F := fun n ls k => g36l0K (fun v1051 v1052 k1054 => g36l0 v1051 v1052 k1054 n ) ls k) tabOk (g36Calls m) mixed (loopsOk_of _ (fun p hp => by rw [show loopsOf (bodyAt Go.Proofs.Tryd.f36 0) = [] by kernel_rfl] at hp; cases hp))
    (fun _ _ => rfl) (fun n ls k => g36l0Step (g36l0M m) (fun v1051 v1052 k1054 => g36l0 v1051 v1052 k1054 n) ls k) (n := m) h
theorem g36Fn (m : Nat) : FnOk Go.Proofs.Tryd.prog 36 g36tp g36bp (fun {α} => g36K (g36 m (α := α))) :=
  fn_ok (tab := tab) (h := g36h m) (fn := Go.Proofs.Tryd.f36) (F := fun {α} => g36K (g36 m (α := α))) tabOk (g36Calls m) mixed (by kernel_rfl) (by kernel_rfl) (fun c hc => by
    rw [bodyOf_some hc]
    exact loopsOk_of _ (fun p hp => by
    rw [show loopsOf (bodyOf Go.Proofs.Tryd.f36) = [(0, bodyAt Go.Proofs.Tryd.f36 0)] by kernel_rfl] at hp
    simp only [List.mem_cons, List.not_mem_nil, or_false] at hp
    rcases hp with rfl
    exact g36l0Ok m))
    (fun α ls k => g36Main (g36l0M m) ls k)
theorem g36Ok (m : Nat) : RowOk Go.Proofs.Tryd.prog 36 (fun {α} => g36R (g36 m (α := α))) := row_of (g36Fn m)
abbrev S_g45 (α : Type) : Type := Int → Int → Int → Int → Int → Int → Int → Int → Int → Int → (Bool → Option α) → Option α
def g45b {α : Type}   (p1078 : Int) (p1079 : Int) (p1080 : Int) (p1081 : Int) (p1082 : Int) (p1083 : Int) (p1084 : Int) (p1085 : Int) (p1086 : Int) (p1087 : Int) (k1093 : Bool → Option α) : Option α :=
  cond (p1078 != p1083)
   (
    k1093 false)
   (
    cond (p1079 != p1084)
     (
      k1093 false)
     (
      cond (p1080 != p1085)
       (
        k1093 false)
       (
        cond (p1081 != p1086)
        (
        k1093 false)
        (
        cond (p1082 != p1087)
        (
        k1093 false)
        (
        k1093 true)))))
def g45 {α : Type} (m : Nat) : S_g45 α :=
  g45b
def g45tp : List TP := [(.vl (.agg [(.one (.int .i8)), (.one (.int .i16)), (.one (.int .i16)), (.one (.int .i64)), (.one (.int .i64))])), (.vl (.agg [(.one (.int .i8)), (.one (.int .i16)), (.one (.int .i16)), (.one (.int .i64)), (.one (.int .i64))]))]
def g45bp : List BP := []
def g45K {α : Type} (G : S_g45 α) (ls : List Lf) (k : KRe α) : Option α :=
  G (lf ls 0).int (lf ls 1).int (lf ls 2).int (lf ls 3).int (lf ls 4).int (lf ls 5).int (lf ls 6).int (lf ls 7).int (lf ls 8).int (lf ls 9).int
    (fun y0 => k (.vl (.sv (.bool y0))) [] [])
def g45R {α : Type} (G : S_g45 α) := rowK g45tp g45bp (g45K G)
def g45hd   : Hd where
  call := fun f args Bs k => none
  loop := fun id st k => none
  ro := fun f => []
def g45h (m : Nat) : Hd := g45hd
theorem g45Main   {α : Type} (ls : List Lf) (k : KRe α) :
    g45K (g45b) ls k = evFun tab (g45hd) Go.Proofs.Tryd.f45 (fillT g45tp ls).1 (fillB g45bp (fillT g45tp ls).2).1 k := by kernel_rfl
theorem g45Calls (m : Nat) : (g45h m).CallsOk Go.Proofs.Tryd.prog := cok_nil
theorem g45Fn (m : Nat) : FnOk Go.Proofs.Tryd.prog 45 g45tp g45bp (fun {α} => g45K (g45 m (α := α))) :=
  fn_ok (tab := tab) (h := g45h m) (fn := Go.Proofs.Tryd.f45) (F := fun {α} => g45K (g45 m (α := α))) tabOk (g45Calls m) mixed (by kernel_rfl) (by kernel_rfl) (fun c hc => by
    rw [bodyOf_some hc]
    exact loopsOk_of _ (fun p hp => by rw [show loopsOf (bodyOf Go.Proofs.Tryd.f45) = [] by kernel_rfl] at hp; cases hp))
    (fun α ls k => g45Main ls k)
theorem g45Ok (m : Nat) : RowOk Go.Proofs.Tryd.prog 45 (fun {α} => g45R (g45 m (α := α))) := row_of (g45Fn m)
abbrev S_g11v1 (α : Type) : Type := Ty1 → Ty1 → (Bool → Option α) → Option α
abbrev S_g11v1l0 (α : Type) : Type := Ty1 → Ty1 → (Option α) → (Option α) → Int → Option α
def g11v1l0b {α : Type} (G_g45 : {α : Type} → S_g45 α)  (a1065 : Ty1) (a1066 : Ty1) (k1097 : Option α) (k1098 : Option α) (r1099 : Int → Option α) (v1064 : Int) : Option α :=
  cond (decide (v1064 < ((a1065.length : Nat) : Int)))
   (
    if 0 ≤ v1064 ∧ v1064 < (a1065.length : Nat) then
      if v1064.toNat < a1065.length then
        if 0 ≤ v1064 ∧ v1064 < (a1066.length : Nat) then
        if v1064.toNat < a1066.length then
        G_g45 ((List.getD a1065 v1064.toNat []).headD 0) ((List.getD a1065 v1064.toNat []).tail.headD 0) ((List.getD a1065 v1064.toNat []).tail.tail.headD 0) ((List.getD a1065 v1064.toNat []).tail.tail.tail.headD 0) ((List.getD a1065 v1064.toNat []).tail.tail.tail.tail.headD 0) ((List.getD a1066 v1064.toNat []).headD 0) ((List.getD a1066 v1064.toNat []).tail.headD 0) ((List.getD a1066 v1064.toNat []).tail.tail.headD 0) ((List.getD a1066 v1064.toNat []).tail.tail.tail.headD 0) ((List.getD a1066 v1064.toNat []).tail.tail.tail.tail.headD 0)
        (fun b1094 =>
        cond (!b1094)
        (
        k1097)
        (
        r1099 (IntKind.wrap .i64 (v1064 + (1 : Int)))))
        else
        none
        else
        none
      else
        none
    else
      none)
   (
    k1098)
def g11v1l0 {α : Type} (G_g45 : {α : Type} → S_g45 α)  (a1065 : Ty1) (a1066 : Ty1) (k1097 : Option α) (k1098 : Option α) : Nat → Int → Option α
  | 0 => fun _ => none
  | m + 1 => fun v1064 => g11v1l0b G_g45 a1065 a1066 k1097 k1098 (g11v1l0 G_g45 a1065 a1066 k1097 k1098 m) v1064
def g11v1l0M {α : Type} (m : Nat) : S_g11v1l0 α :=
  fun a1065 a1066 k1097 k1098 v1064 => g11v1l0 (g45 m) a1065 a1066 k1097 k1098 m v1064
def g11v1l0D : LoopD := { n := 27, low := [0, 1], sl := [0, 1, 5], bl := [0, 1], tp := [(.vl (.sv (.gsl 0 5))), (.vl (.sv (.gsl 1 5))), (.vl (.sv (.int .i64)))], bp := [(false, [(.gro (.rc [.i8, .i16, .i16, .i64, .i64]))]), (false, [(.gro (.rc [.i8, .i16, .i16, .i64, .i64]))])], xs := [(1, [4]), (2, [])] }
def g11v1l0K {α : Type} (L : S_g11v1l0 α) (ls : List Lf) (k : KEx α) : Option α :=
  L ((lf ls 1).lst (.rc [.i8, .i16, .i16, .i64, .i64])) ((lf ls 2).lst (.rc [.i8, .i16, .i16, .i64, .i64]))
    (k .ret (mkSt 27 [4] [(.vl (.sv (.bool false)))] [0, 1] [(false, [(.gro (.rc [.i8, .i16, .i16, .i64, .i64]) ((lf ls 1).lst (.rc [.i8, .i16, .i16, .i64, .i64])))]), (false, [(.gro (.rc [.i8, .i16, .i16, .i64, .i64]) ((lf ls 2).lst (.rc [.i8, .i16, .i16, .i64, .i64])))])]))
    (k .normal (mkSt 27 [] [] [0, 1] [(false, [(.gro (.rc [.i8, .i16, .i16, .i64, .i64]) ((lf ls 1).lst (.rc [.i8, .i16, .i16, .i64, .i64])))]), (false, [(.gro (.rc [.i8, .i16, .i16, .i64, .i64]) ((lf ls 2).lst (.rc [.i8, .i16, .i16, .i64, .i64])))])]))
    (lf ls 0).int
def g11v1b {α : Type} (G_g45 : {α : Type} → S_g45 α) (L_g11v1l0 : {α : Type} → S_g11v1l0 α) (u1061 : Ty1) (u1062 : Ty1) (k1100 : Bool → Option α) : Option α :=
  cond (((u1061.length : Nat) : Int) != ((u1062.length : Nat) : Int))
   (
    k1100 false)
   (
    L_g11v1l0 u1061 u1062
      (
        k1100 false)
      (
        k1100 true)
      (0 : Int))
def g11v1 {α : Type} (m : Nat) : S_g11v1 α :=
  g11v1b (g45 m) (g11v1l0M m)
def g11v1tp : List TP := [(.vl (.sv (.gsl 0 5))), (.vl (.sv (.gsl 1 5)))]
def g11v1bp : List BP := [(false, [(.gro (.rc [.i8, .i16, .i16, .i64, .i64]))]), (false, [(.gro (.rc [.i8, .i16, .i16, .i64, .i64]))])]
def g11v1K {α : Type} (G : S_g11v1 α) (ls : List Lf) (k : KRe α) : Option α :=
  G ((lf ls 0).lst (.rc [.i8, .i16, .i16, .i64, .i64])) ((lf ls 1).lst (.rc [.i8, .i16, .i16, .i64, .i64]))
    (fun y0 => k (.vl (.sv (.bool y0))) [[(.gro (.rc [.i8, .i16, .i16, .i64, .i64]) ((lf ls 0).lst (.rc [.i8, .i16, .i16, .i64, .i64])))], [(.gro (.rc [.i8, .i16, .i16, .i64, .i64]) ((lf ls 1).lst (.rc [.i8, .i16, .i16, .i64, .i64])))]] [])
def g11v1R {α : Type} (G : S_g11v1 α) := rowK g11v1tp g11v1bp (g11v1K G)
def g11v1hd (G_g45 : {α : Type} → S_g45 α) (L_g11v1l0 : {α : Type} → S_g11v1l0 α) : Hd where
  call := fun f args Bs k => cond (Nat.beq f 45) (g45R G_g45 args Bs k) (none)
  loop := fun id st k => cond (Nat.beq id 0) (loopH g11v1l0D (g11v1l0K L_g11v1l0) st k) (none)
  ro := fun f => []
def g11v1h (m : Nat) : Hd := g11v1hd (g45 m) (g11v1l0M m)
theorem g11v1l0Step (G_g45 : {α : Type} → S_g45 α) (L_g11v1l0 : {α : Type} → S_g11v1l0 α) {α : Type} (L : S_g11v1l0 α) (ls : List Lf) (k : KEx α) :
    g11v1l0K (fun a1065 a1066 k1097 k1098 v1064 => g11v1l0b G_g45 a1065 a1066 k1097 k1098 (L a1065 a1066 k1097 k1098) v1064) ls k = ev tab (g11v1hd G_g45 L_g11v1l0) (bodyAt Go.Proofs.Tryd.f11 0) (atHead g11v1l0D ls) (loopK g11v1l0D 0 (loopH g11v1l0D (g11v1l0K L)) k) := by kernel_rfl
theorem g11v1Main (G_g45 : {α : Type} → S_g45 α) (L_g11v1l0 : {α : Type} → S_g11v1l0 α) {α : Type} (ls : List Lf) (k : KRe α) :
    g11v1K (g11v1b G_g45 L_g11v1l0) ls k = evFun tab (g11v1hd G_g45 L_g11v1l0) Go.Proofs.Tryd.f11 (fillT g11v1tp ls).1 (fillB g11v1bp (fillT g11v1tp ls).2).1 k := by kernel_rfl
theorem g11v1Calls (m : Nat) : (g11v1h m).CallsOk Go.Proofs.Tryd.prog := (cok_cons (g45Ok m) cok_nil)
theorem g11v1l0Ok (m : Nat) (α : Type) (st : St) (k : KEx α) (r : α) (h : (g11v1h m).loop 0 st k = some r) :
    LoopS Go.Proofs.Tryd.prog 0 (bodyAt Go.Proofs.Tryd.f11 0) st k r :=
  loop_ok (tab := tab) (h := g11v1h m) (F := fun n ls k => g11v1l0K (fun a1065 a1066 k1097 k1098 v1064 => g11v1l0 (g45 m) a1065 a1066 k1097 k1098 n v1064) ls k) tabOk (g11v1Calls m) mixed (loopsOk_of _ (fun p hp => by rw [show loopsOf (bodyAt Go.Proofs.Tryd.f11 0) = [] by kernel_rfl] at hp; cases hp))
    (fun _ _ => rfl) (fun n ls k => g11v1l0Step (g45 m) (g11v1l0M m) (fun a1065 a1066 k1097 k1098 => g11v1l0 (g45 m) a1065 a1066 k1097 k1098 n) ls k) (n := m) h
theorem g11v1Fn (m : Nat) : FnOk Go.Proofs.Tryd.prog 11 g11v1tp g11v1bp (fun {α} => g11v1K (g11v1 m (α := α))) :=
  fn_ok (tab := tab) (h := g11v1h m) (fn := Go.Proofs.Tryd.f11) (F := fun {α} => g11v1K (g11v1 m (α := α))) tabOk (g11v1Calls m) mixed (by kernel_rfl) (by kernel_rfl) (fun c hc => by
    rw [bodyOf_some hc]
    exact loopsOk_of _ (fun p hp => by
    rw [show loopsOf (bodyOf Go.Proofs.Tryd.f11) = [(0, bodyAt Go.Proofs.Tryd.f11 0)] by kernel_rfl] at hp
    simp only [List.mem_cons, List.not_mem_nil, or_false] at hp
    rcases hp with rfl
    exact g11v1l0Ok m))
    (fun α ls k => g11v1Main (g45 m) (g11v1l0M m) ls k)
theorem g11v1Ok (m : Nat) : RowOk Go.Proofs.Tryd.prog 11 (fun {α} => g11v1R (g11v1 m (α := α))) := row_of (g11v1Fn m)
abbrev S_g35v1 (α : Type) : Type := Int → Ty1 → (Int → Ty1 → Option α) → Option α
abbrev S_g35v1l0 (α : Type) : Type := (Int → Ty1 → Option α) → Int → Int → Ty1 → Option α
def g35v1l0b {α : Type}    (k1128 : Int → Ty1 → Option α) (r1129 : Int → Int → Ty1 → Option α) (v1110 : Int) (v1111 : Int) (a1112 : Ty1) : Option α :=
  cond (decide (v1111 < ((a1112.length : Nat) : Int)))
   (
    if 0 ≤ v1111 ∧ v1111 < (a1112.length : Nat) then
      if v1111.toNat < a1112.length then
        let l1115 : Ty1 := List.set a1112 (v1111.toNat) [(IntKind.wrap .i8 v1110), (List.getD a1112 v1111.toNat []).tail.headD 0, (List.getD a1112 v1111.toNat []).tail.tail.headD 0, (List.getD a1112 v1111.toNat []).tail.tail.tail.headD 0, (List.getD a1112 v1111.toNat []).tail.tail.tail.tail.headD 0]
        let x1116 : Int := IntKind.wrap .i64 (v1110 + (1 : Int))
        if 0 ≤ v1111 ∧ v1111 < (l1115.length : Nat) then
        if v1111.toNat < l1115.length then
        let l1118 : Ty1 := List.set l1115 (v1111.toNat) [(List.getD l1115 v1111.toNat []).headD 0, (IntKind.wrap .i16 x1116), (List.getD l1115 v1111.toNat []).tail.tail.headD 0, (List.getD l1115 v1111.toNat []).tail.tail.tail.headD 0, (List.getD l1115 v1111.toNat []).tail.tail.tail.tail.headD 0]
        let x1119 : Int := IntKind.wrap .i64 (x1116 + (1 : Int))
        if 0 ≤ v1111 ∧ v1111 < (l1118.length : Nat) then
        if v1111.toNat < l1118.length then
        let l1121 : Ty1 := List.set l1118 (v1111.toNat) [(List.getD l1118 v1111.toNat []).headD 0, (List.getD l1118 v1111.toNat []).tail.headD 0, (IntKind.wrap .i16 x1119), (List.getD l1118 v1111.toNat []).tail.tail.tail.headD 0, (List.getD l1118 v1111.toNat []).tail.tail.tail.tail.headD 0]
        let x1122 : Int := IntKind.wrap .i64 (x1119 + (1 : Int))
        if 0 ≤ v1111 ∧ v1111 < (l1121.length : Nat) then
        if v1111.toNat < l1121.length then
        let l1123 : Ty1 := List.set l1121 (v1111.toNat) [(List.getD l1121 v1111.toNat []).headD 0, (List.getD l1121 v1111.toNat []).tail.headD 0, (List.getD l1121 v1111.toNat []).tail.tail.headD 0, x1122, (List.getD l1121 v1111.toNat []).tail.tail.tail.tail.headD 0]
        let x1124 : Int := IntKind.wrap .i64 (x1122 + (1 : Int))
        if 0 ≤ v1111 ∧ v1111 < (l1123.length : Nat) then
        if v1111.toNat < l1123.length then
        r1129 (IntKind.wrap .i64 (x1124 + (1 : Int))) (IntKind.wrap .i64 (v1111 + (1 : Int))) (List.set l1123 (v1111.toNat) [(List.getD l1123 v1111.toNat []).headD 0, (List.getD l1123 v1111.toNat []).tail.headD 0, (List.getD l1123 v1111.toNat []).tail.tail.headD 0, (List.getD l1123 v1111.toNat []).tail.tail.tail.headD 0, x1124])
        else
        none
        else
        none
        else
        none
        else
        none
        else
        none
        else
        none
        else
        none
        else
        none
      else
        none
    else
      none)
   (
    k1128 v1110 a1112)
def g35v1l0 {α : Type}    (k1128 : Int → Ty1 → Option α) : Nat → Int → Int → Ty1 → Option α
  | 0 => fun _ _ _ => none
  | m + 1 => fun v1110 v1111 a1112 => g35v1l0b  k1128 (g35v1l0  k1128 m) v1110 v1111 a1112
def g35v1l0M {α : Type} (m : Nat) : S_g35v1l0 α :=
  fun  k1128 v1110 v1111 a1112 => g35v1l0  k1128 m v1110 v1111 a1112
def g35v1l0D : LoopD := { n := 51, low := [0], sl := [0, 1, 5], bl := [0], tp := [(.vl (.sv (.gsl 0 5))), (.vl (.sv (.int .i64))), (.vl (.sv (.int .i64)))], bp := [(true, [(.gro (.rc [.i8, .i16, .i16, .i64, .i64]))])], xs := [(2, [1])] }
def g35v1l0K {α : Type} (L : S_g35v1l0 α) (ls : List Lf) (k : KEx α) : Option α :=
  L 
    (fun y0 y1 => k .normal (mkSt 51 [1] [(.vl (.sv (.int .i64 y0)))] [0] [(true, [(.gro (.rc [.i8, .i16, .i16, .i64, .i64]) y1)])]))
    (lf ls 0).int (lf ls 1).int ((lf ls 2).lst (.rc [.i8, .i16, .i16, .i64, .i64]))
def g35v1b {α : Type}  (L_g35v1l0 : {α : Type} → S_g35v1l0 α) (p1108 : Int) (u1109 : Ty1) (k1132 : Int → Ty1 → Option α) : Option α :=
  L_g35v1l0
    (fun x1130 l1131 =>
      k1132 x1130 l1131)
    p1108 (0 : Int) u1109
def g35v1 {α : Type} (m : Nat) : S_g35v1 α :=
  g35v1b (g35v1l0M m)
def g35v1tp : List TP := [(.vl (.sv (.gsl 0 5))), (.vl (.sv (.int .i64)))]
def g35v1bp : List BP := [(true, [(.gro (.rc [.i8, .i16, .i16, .i64, .i64]))])]
def g35v1K {α : Type} (G : S_g35v1 α) (ls : List Lf) (k : KRe α) : Option α :=
  G (lf ls 0).int ((lf ls 1).lst (.rc [.i8, .i16, .i16, .i64, .i64]))
    (fun y0 y1 => k (.vl (.sv (.int .i64 y0))) [[(.gro (.rc [.i8, .i16, .i16, .i64, .i64]) y1)]] [])
def g35v1R {α : Type} (G : S_g35v1 α) := rowK g35v1tp g35v1bp (g35v1K G)
def g35v1hd  (L_g35v1l0 : {α : Type} → S_g35v1l0 α) : Hd where
  call := fun f args Bs k => none
  loop := fun id st k => cond (Nat.beq id 0) (loopH g35v1l0D (g35v1l0K L_g35v1l0) st k) (none)
  ro := fun f => []
def g35v1h (m : Nat) : Hd := g35v1hd (g35v1l0M m)
theorem g35v1l0Step  (L_g35v1l0 : {α : Type} → S_g35v1l0 α) {α : Type} (L : S_g35v1l0 α) (ls : List Lf) (k : KEx α) :
    g35v1l0K (fun k1128 v1110 v1111 a1112 => g35v1l0b k1128 (L k1128) v1110 v1111 a1112) ls k = ev tab (g35v1hd L_g35v1l0) (bodyAt Go.Proofs.Tryd.f35 0) (atHead g35v1l0D ls) (loopK g35v1l0D 0 (loopH g35v1l0D (g35v1l0K L)) k) := by kernel_rfl
theorem g35v1Main  (L_g35v1l0 : {α : Type} → S_g35v1l0 α) {α : Type} (ls : List Lf) (k : KRe α) :
    g35v1K (g35v1b L_g35v1l0) ls k = evFun tab (g35v1hd L_g35v1l0) Go.Proofs.Tryd.f35 (fillT g35v1tp ls).1 (fillB g35v1bp (fillT g35v1tp ls).2).1 k := by kernel_rfl
theorem g35v1Calls (m : Nat) : (g35v1h m).CallsOk Go.Proofs.Tryd.prog := cok_nil
theorem g35v1l0Ok (m : Nat) (α : Type) (st : St) (k : KEx α) (r : α) (h : (g35v1h m).loop 0 st k = some r) :
    LoopS Go.Proofs.Tryd.prog 0 (bodyAt Go.Proofs.Tryd.f35 0) st k r :=
  loop_ok (tab := tab) (h := g35v1h m) (F := fun n ls k => g35v1l0K (fun k1128 v1110 v1111 a1112 => g35v1l0 k1128 n v1110 v1111 a1112) ls k) tabOk (g35v1Calls m) mixed (loopsOk_of _ (fun p hp => by rw [show loopsOf (bodyAt Go.Proofs.Tryd.f35 0) = [] by kernel_rfl] at hp; cases hp))
    (fun _ _ => rfl) (fun n ls k => g35v1l0Step (g35v1l0M m) (fun k1128 => g35v1l0 k1128 n) ls k) (n := m) h
theorem g35v1Fn (m : Nat) : FnOk Go.Proofs.Tryd.prog 35 g35v1tp g35v1bp (fun {α} => g35v1K (g35v1 m (α := α))) :=
  fn_ok (tab := tab) (h := g35v1h m) (fn := Go.Proofs.Tryd.f35) (F := fun {α} => g35v1K (g35v1 m (α := α))) tabOk (g35v1Calls m) mixed (by kernel_rfl) (by kernel_rfl) (fun c hc => by
    rw [bodyOf_some hc]
    exact loopsOk_of _ (fun p hp => by
    rw [show loopsOf (bodyOf Go.Proofs.Tryd.f35) = [(0, bodyAt Go.Proofs.Tryd.f35 0)] by kernel_rfl] at hp
    simp only [List.mem_cons, List.not_mem_nil, or_false] at hp
    rcases hp with rfl
    exact g35v1l0Ok m))
    (fun α ls k => g35v1Main (g35v1l0M m) ls k)
theorem g35v1Ok (m : Nat) : RowOk Go.Proofs.Tryd.prog 35 (fun {α} => g35v1R (g35v1 m (α := α))) := row_of (g35v1Fn m)
abbrev S_g36v1 (α : Type) : Type := Int → Ty1 → (Int → Option α) → Option α
abbrev S_g36v1l0 (α : Type) : Type := Ty1 → (Option α) → (Int → Option α) → Int → Int → Option α
def g36v1l0b {α : Type}   (a1139 : Ty1) (k1160 : Option α) (k1161 : Int → Option α) (r1162 : Int → Int → Option α) (v1137 : Int) (v1138 : Int) : Option α :=
  cond (decide (v1138 < ((a1139.length : Nat) : Int)))
   (
    if 0 ≤ v1138 ∧ v1138 < (a1139.length : Nat) then
      if v1138.toNat < a1139.length then
        cond (((List.getD a1139 v1138.toNat []).headD 0) != (IntKind.wrap .i8 v1137))
        (
        k1160)
        (
        let x1144 : Int := IntKind.wrap .i64 (v1137 + (1 : Int))
        if 0 ≤ v1138 ∧ v1138 < (a1139.length : Nat) then
        if v1138.toNat < a1139.length then
        cond ((((List.getD a1139 v1138.toNat []).tail).headD 0) != (IntKind.wrap .i16 x1144))
        (
        k1160)
        (
        let x1148 : Int := IntKind.wrap .i64 (x1144 + (1 : Int))
        if 0 ≤ v1138 ∧ v1138 < (a1139.length : Nat) then
        if v1138.toNat < a1139.length then
        cond ((((List.getD a1139 v1138.toNat []).tail.tail).headD 0) != (IntKind.wrap .i16 x1148))
        (
        k1160)
        (
        let x1152 : Int := IntKind.wrap .i64 (x1148 + (1 : Int))
        if 0 ≤ v1138 ∧ v1138 < (a1139.length : Nat) then
        if v1138.toNat < a1139.length then
        cond ((((List.getD a1139 v1138.toNat []).tail.tail.tail).headD 0) != x1152)
        (
        k1160)
        (
        let x1155 : Int := IntKind.wrap .i64 (x1152 + (1 : Int))
        if 0 ≤ v1138 ∧ v1138 < (a1139.length : Nat) then
        if v1138.toNat < a1139.length then
        cond ((((List.getD a1139 v1138.toNat []).tail.tail.tail.tail).headD 0) != x1155)
        (
        k1160)
        (
        r1162 (IntKind.wrap .i64 (x1155 + (1 : Int))) (IntKind.wrap .i64 (v1138 + (1 : Int))))
        else
        none
        else
        none)
        else
        none
        else
        none)
        else
        none
        else
        none)
        else
        none
        else
        none)
      else
        none
    else
      none)
   (
    k1161 v1137)
def g36v1l0 {α : Type}   (a1139 : Ty1) (k1160 : Option α) (k1161 : Int → Option α) : Nat → Int → Int → Option α
  | 0 => fun _ _ => none
  | m + 1 => fun v1137 v1138 => g36v1l0b a1139 k1160 k1161 (g36v1l0 a1139 k1160 k1161 m) v1137 v1138
def g36v1l0M {α : Type} (m : Nat) : S_g36v1l0 α :=
  fun a1139 k1160 k1161 v1137 v1138 => g36v1l0 a1139 k1160 k1161 m v1137 v1138
def g36v1l0D : LoopD := { n := 61, low := [0], sl := [0, 1, 5], bl := [0], tp := [(.vl (.sv (.gsl 0 5))), (.vl (.sv (.int .i64))), (.vl (.sv (.int .i64)))], bp := [(false, [(.gro (.rc [.i8, .i16, .i16, .i64, .i64]))])], xs := [(1, [4]), (2, [1])] }
def g36v1l0K {α : Type} (L : S_g36v1l0 α) (ls : List Lf) (k : KEx α) : Option α :=
  L ((lf ls 2).lst (.rc [.i8, .i16, .i16, .i64, .i64]))
    (k .ret (mkSt 61 [4] [(.vl (.sv (.int .i64 (-1 : Int))))] [0] [(false, [(.gro (.rc [.i8, .i16, .i16, .i64, .i64]) ((lf ls 2).lst (.rc [.i8, .i16, .i16, .i64, .i64])))])]))
    (fun y0 => k .normal (mkSt 61 [1] [(.vl (.sv (.int .i64 y0)))] [0] [(false, [(.gro (.rc [.i8, .i16, .i16, .i64, .i64]) ((lf ls 2).lst (.rc [.i8, .i16, .i16, .i64, .i64])))])]))
    (lf ls 0).int (lf ls 1).int
def g36v1b {α : Type}  (L_g36v1l0 : {α : Type} → S_g36v1l0 α) (p1135 : Int) (u1136 : Ty1) (k1164 : Int → Option α) : Option α :=
  L_g36v1l0 u1136
    (
      k1164 (-1 : Int))
    (fun x1163 =>
      k1164 x1163)
    p1135 (0 : Int)
def g36v1 {α : Type} (m : Nat) : S_g36v1 α :=
  g36v1b (g36v1l0M m)
def g36v1tp : List TP := [(.vl (.sv (.gsl 0 5))), (.vl (.sv (.int .i64)))]
def g36v1bp : List BP := [(false, [(.gro (.rc [.i8, .i16, .i16, .i64, .i64]))])]
def g36v1K {α : Type} (G : S_g36v1 α) (ls : List Lf) (k : KRe α) : Option α :=
  G (lf ls 0).int ((lf ls 1).lst (.rc [.i8, .i16, .i16, .i64, .i64]))
    (fun y0 => k (.vl (.sv (.int .i64 y0))) [[(.gro (.rc [.i8, .i16, .i16, .i64, .i64]) ((lf ls 1).lst (.rc [.i8, .i16, .i16, .i64, .i64])))]] [])
def g36v1R {α : Type} (G : S_g36v1 α) := rowK g36v1tp g36v1bp (g36v1K G)
def g36v1hd  (L_g36v1l0 : {α : Type} → S_g36v1l0 α) : Hd where
  call := fun f args Bs k => none
  loop := fun id st k => cond (Nat.beq id 0) (loopH g36v1l0D (g36v1l0K L_g36v1l0) st k) (none)
  ro := fun f => []
def g36v1h (m : Nat) : Hd := g36v1hd (g36v1l0M m)
theorem g36v1l0Step  (L_g36v1l0 : {α : Type} → S_g36v1l0 α) {α : Type} (L : S_g36v1l0 α) (ls : List Lf) (k : KEx α) :
    g36v1l0K (fun a1139 k1160 k1161 v1137 v1138 => g36v1l0b a1139 k1160 k1161 (L a1139 k1160 k1161) v1137 v1138) ls k = ev tab (g36v1hd L_g36v1l0) (bodyAt Go.Proofs.Tryd.f36 0) (atHead g36v1l0D ls) (loopK g36v1l0D 0 (loopH g36v1l0D (g36v1l0K L)) k) := by kernel_rfl
theorem g36v1Main  (L_g36v1l0 : {α : Type} → S_g36v1l0 α) {α : Type} (ls : List Lf) (k : KRe α) :
    g36v1K (g36v1b L_g36v1l0) ls k = evFun tab (g36v1hd L_g36v1l0) Go.Proofs.Tryd.f36 (fillT g36v1tp ls).1 (fillB g36v1bp (fillT g36v1tp ls).2).1 k := by kernel_rfl
theorem g36v1Calls (m : Nat) : (g36v1h m).CallsOk Go.Proofs.Tryd.prog := cok_nil
theorem g36v1l0Ok (m : Nat) (α : Type) (st : St) (k : KEx α) (r : α) (h : (g36v1h m).loop 0 st k = some r) :
    LoopS Go.Proofs.Tryd.prog 0 (bodyAt Go.Proofs.Tryd.f36 0) st k r :=
  loop_ok (tab := tab) (h := g36v1h m) (F := fun n ls k => g36v1l0K (fun a1139 k1160 k1161 v1137 v1138 => g36v1l0 a1139 k1160 k1161 n v1137 v1138) ls k) tabOk (g36v1Calls m) mixed (loopsOk_of _ (fun p hp => by rw [show loopsOf (bodyAt Go.Proofs.Tryd.f36 0) = [] by kernel_rfl] at hp; cases hp))
    (fun _ _ => rfl) (fun n ls k => g36v1l0Step (g36v1l0M m) (fun a1139 k1160 k1161 => g36v1l0 a1139 k1160 k1161 n) ls k) (n := m) h
theorem g36v1Fn (m : Nat) : FnOk Go.Proofs.Tryd.prog 36 g36v1tp g36v1bp (fun {α} => g36v1K (g36v1 m (α := α))) :=
  fn_ok (tab := tab) (h := g36v1h m) (fn := Go.Proofs.Tryd.f36) (F := fun {α} => g36v1K (g36v1 m (α := α))) tabOk (g36v1Calls m) mixed (by kernel_rfl) (by kernel_rfl) (fun c hc => by
    rw [bodyOf_some hc]
    exact loopsOk_of _ (fun p hp => by
    rw [show loopsOf (bodyOf Go.Proofs.Tryd.f36) = [(0, bodyAt Go.Proofs.Tryd.f36 0)] by kernel_rfl] at hp
    simp only [List.mem_cons, List.not_mem_nil, or_false] at hp
    rcases hp with rfl
    exact g36v1l0Ok m))
    (fun α ls k => g36v1Main (g36v1l0M m) ls k)
theorem g36v1Ok (m : Nat) : RowOk Go.Proofs.Tryd.prog 36 (fun {α} => g36v1R (g36v1 m (α := α))) := row_of (g36v1Fn m)
abbrev S_g6 (α : Type) : Type := ByteArray → (Bool → Option α) → Option α
def g6b {α : Type} (G_g33 : {α : Type} → S_g33 α) (G_g34 : {α : Type} → S_g34 α) (G_g11 : {α : Type} → S_g11 α) (G_g35 : {α : Type} → S_g35 α) (G_g36 : {α : Type} → S_g36 α) (G_g11v1 : {α : Type} → S_g11v1 α) (G_g35v1 : {α : Type} → S_g35v1 α) (G_g36v1 : {α : Type} → S_g36v1 α)  (z34 : ByteArray) (k1181 : Bool → Option α) : Option α :=
  cond (decide (((z34.size : Nat) : Int) > (1048576 : Int)))
   (
    k1181 true)
   (
    G_g33 z34
      (fun x489 l490 =>
        G_g34 z34
        (
        G_g11 l490
        (fun b1039 =>
        cond (!b1039)
        (
        k1181 false)
        (
        cond ((5 : Int) != x489)
        (
        k1181 false)
        (
        G_g35 (1 : Int)
        (
        G_g36 (1 : Int)
        (
        G_g34 z34
        (
        G_g11 l490
        (fun b1057 =>
        cond (!b1057)
        (
        k1181 false)
        (
        cond ((5 : Int) != x489)
        (
        k1181 false)
        (
        G_g36 (1 : Int)
        (
        k1181 true)))))
        (fun l1060 =>
        G_g11v1 l1060 l490
        (fun b1101 =>
        cond (!b1101)
        (
        k1181 false)
        (
        cond ((0 : Int) != x489)
        (
        k1181 false)
        (
        G_g36 (1 : Int)
        (
        k1181 true)))))))))))
        (fun l1104 =>
        G_g11v1 l1104 l490
        (fun b1105 =>
        cond (!b1105)
        (
        k1181 false)
        (
        cond ((0 : Int) != x489)
        (
        k1181 false)
        (
        G_g35v1 (1 : Int) l1104
        (fun x1133 l1134 =>
        G_g36v1 (1 : Int) l1134
        (fun x1165 =>
        cond (decide (x1165 < (0 : Int)))
        (
        k1181 false)
        (
        cond (x1165 != x1133)
        (
        k1181 false)
        (
        G_g34 z34
        (
        G_g11 l490
        (fun b1168 =>
        cond (!b1168)
        (
        k1181 false)
        (
        cond ((5 : Int) != x489)
        (
        k1181 false)
        (
        G_g36v1 (1 : Int) l1134
        (fun x1171 =>
        cond (decide (x1171 < (0 : Int)))
        (
        k1181 false)
        (
        cond (x1171 != x1133)
        (
        k1181 false)
        (
        k1181 true)))))))
        (fun l1174 =>
        G_g11v1 l1174 l490
        (fun b1175 =>
        cond (!b1175)
        (
        k1181 false)
        (
        cond ((0 : Int) != x489)
        (
        k1181 false)
        (
        G_g36v1 (1 : Int) l1134
        (fun x1178 =>
        cond (decide (x1178 < (0 : Int)))
        (
        k1181 false)
        (
        cond (x1178 != x1133)
        (
        k1181 false)
        (
        k1181 true)))))))))))))))))
def g6 {α : Type} (m : Nat) : S_g6 α :=
  g6b (g33 m) (g34 m) (g11 m) (g35 m) (g36 m) (g11v1 m) (g35v1 m) (g36v1 m)
def g6tp : List TP := [(.vl (.sv .str))]
def g6bp : List BP := []
def g6K {α : Type} (G : S_g6 α) (ls : List Lf) (k : KRe α) : Option α :=
  G (lf ls 0).str
    (fun y0 => k (.vl (.sv (.bool y0))) [] [])
def g6hd (G_g33 : {α : Type} → S_g33 α) (G_g34 : {α : Type} → S_g34 α) (G_g11 : {α : Type} → S_g11 α) (G_g35 : {α : Type} → S_g35 α) (G_g36 : {α : Type} → S_g36 α) (G_g11v1 : {α : Type} → S_g11v1 α) (G_g35v1 : {α : Type} → S_g35v1 α) (G_g36v1 : {α : Type} → S_g36v1 α)  : Hd where
  call := fun f args Bs k => cond (Nat.beq f 33) (g33R G_g33 args Bs k) (cond (Nat.beq f 34) (g34R G_g34 args Bs k) (cond (Nat.beq f 11) (rowE g11tp g11bp (g11K G_g11) (g11v1R G_g11v1) args Bs k) (cond (Nat.beq f 35) (rowE g35tp g35bp (g35K G_g35) (g35v1R G_g35v1) args Bs k) (cond (Nat.beq f 36) (rowE g36tp g36bp (g36K G_g36) (g36v1R G_g36v1) args Bs k) (none)))))
  loop := fun id st k => none
  ro := fun f => cond (Nat.beq f 11) [0, 1] (cond (Nat.beq f 36) [0] ([]))
def g6h (m : Nat) : Hd := g6hd (g33 m) (g34 m) (g11 m) (g35 m) (g36 m) (g11v1 m) (g35v1 m) (g36v1 m)
theorem g6Main (G_g33 : {α : Type} → S_g33 α) (G_g34 : {α : Type} → S_g34 α) (G_g11 : {α : Type} → S_g11 α) (G_g35 : {α : Type} → S_g35 α) (G_g36 : {α : Type} → S_g36 α) (G_g11v1 : {α : Type} → S_g11v1 α) (G_g35v1 : {α : Type} → S_g35v1 α) (G_g36v1 : {α : Type} → S_g36v1 α)  {α : Type} (ls : List Lf) (k : KRe α) :
    g6K (g6b G_g33 G_g34 G_g11 G_g35 G_g36 G_g11v1 G_g35v1 G_g36v1) ls k = evFun tab (g6hd G_g33 G_g34 G_g11 G_g35 G_g36 G_g11v1 G_g35v1 G_g36v1) Go.Proofs.Tryd.f6 (fillT g6tp ls).1 (fillB g6bp (fillT g6tp ls).2).1 k := by kernel_rfl
theorem g6Calls (m : Nat) : (g6h m).CallsOk Go.Proofs.Tryd.prog := (cok_cons (g33Ok m) (cok_cons (g34Ok m) (cok_cons (row_else (g11Ok m) (g11v1Ok m)) (cok_cons (row_else (g35Ok m) (g35v1Ok m)) (cok_cons (row_else (g36Ok m) (g36v1Ok m)) cok_nil)))))
theorem g6Fn (m : Nat) : FnOk Go.Proofs.Tryd.prog 6 g6tp g6bp (fun {α} => g6K (g6 m (α := α))) :=
  fn_ok (tab := tab) (h := g6h m) (fn := Go.Proofs.Tryd.f6) (F := fun {α} => g6K (g6 m (α := α))) tabOk (g6Calls m) mixed (by kernel_rfl) (by kernel_rfl) (fun c hc => by
    rw [bodyOf_some hc]
    exact loopsOk_of _ (fun p hp => by rw [show loopsOf (bodyOf Go.Proofs.Tryd.f6) = [] by kernel_rfl] at hp; cases hp))
    (fun α ls k => g6Main (g33 m) (g34 m) (g11 m) (g35 m) (g36 m) (g11v1 m) (g35v1 m) (g36v1 m) ls k)
end Go.Proofs.YtlmmgjngihlpeaaDoor.Sx
