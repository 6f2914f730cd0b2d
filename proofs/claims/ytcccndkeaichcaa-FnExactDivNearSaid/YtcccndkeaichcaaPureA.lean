import Derived.Test.YtcccndkeaichcaaSxV
import Derived.Test.YtcccndkeaichcaaSxQ
namespace Go.Proofs.Ytcccndkeaichcaa.Sx
open Go
set_option linter.unusedVariables false
set_option maxRecDepth 100000
theorem six {l : List Int} (h : l.length = 6) : ∃ a b c d e f, l = [a, b, c, d, e, f] := by
  match l, h with
  | [a, b, c, d, e, f], _ => exact ⟨a, b, c, d, e, f, rfl⟩
theorem g65Eq {α : Type} (n : Nat) {l : List Int} (hl : l.length = 6) (k : List Int → Option α) : g65 (n + 7) l k = k l := by
  obtain ⟨a, b, c, d, e, f, rfl⟩ := six hl
  kernel_rfl
theorem g23Eq {α : Type} (n : Nat) (q : Bool) {l : List Int} (hl : l.length = 6) (k : List Int → Option α) : g23 (n + 7) q l k = k l := g65Eq n hl k
theorem law3 (q : Bool) {l : List Int} (hl : l.length = 6) {α : Type} (k : Bool → Option α) : g3 7 q l k = k true := by
  simp only [g3, g3b, g23Eq 0 q hl, g22, g22b, g64, g64b, g24, g24b]
  cases q
  · rfl
  · simp only [Bool.not_true, cond_false, beq_self_eq_true]
theorem law3' (ls : List Lf) (hw : WT g3tp ls) : g3K (g3 7) ls (fun v _ _ => saysTrue v) = some () := law3 _ hw.1.2.1.1 _
end Go.Proofs.Ytcccndkeaichcaa.Sx
