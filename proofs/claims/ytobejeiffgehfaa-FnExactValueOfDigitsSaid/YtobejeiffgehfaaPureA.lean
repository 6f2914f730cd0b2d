import Derived.Test.YtobejeiffgehfaaSxV
import Derived.Test.YtobejeiffgehfaaSxQ
namespace Go.Proofs.Ytobejeiffgehfaa.Sx
open Go
set_option linter.unusedVariables false
set_option maxRecDepth 100000
theorem six {l : List Int} (h : l.length = 6) : ∃ a b c d e f, l = [a, b, c, d, e, f] := by
  match l, h with
  | [a, b, c, d, e, f], _ => exact ⟨a, b, c, d, e, f, rfl⟩
theorem g48Eq {α : Type} (n : Nat) {l : List Int} (hl : l.length = 6) (k : List Int → Option α) : g48 (n + 7) l k = k l := by
  obtain ⟨a, b, c, d, e, f, rfl⟩ := six hl
  kernel_rfl
theorem g19Eq {α : Type} (n : Nat) (q : Bool) {l : List Int} (hl : l.length = 6) (k : List Int → Option α) : g19 (n + 7) q l k = k l := g48Eq n hl k
end Go.Proofs.Ytobejeiffgehfaa.Sx
