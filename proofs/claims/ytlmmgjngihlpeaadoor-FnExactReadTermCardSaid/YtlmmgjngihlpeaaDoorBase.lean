/- Plain laws: loops that count up, rows. Our own work. -/
import Derived.Test.YtlmmgjngihlpeaaDoorSxV
import Derived.Test.YtlmmgjngihlpeaaDoorSxQ
namespace Go.Proofs.YtlmmgjngihlpeaaDoor.Sx
open Go
set_option linter.unusedVariables false
set_option linter.unusedSimpArgs false
set_option maxRecDepth 100000
theorem wrapS {i : Nat} (h : i < 2000000000) : IntKind.wrap .i64 ((i : Int) + (1 : Int)) = ((i + 1 : Nat) : Int) := by rw [IntKind.wrap_i64]; omega
theorem wrapI {x : Int} (h1 : -9223372036854775808 ≤ x) (h2 : x ≤ 9223372036854775807) : IntKind.wrap .i64 x = x := by rw [IntKind.wrap_i64]; omega
theorem dT {p : Prop} [Decidable p] (h : p) : decide p = true := decide_eq_true h
theorem dF {p : Prop} [Decidable p] (h : ¬ p) : decide p = false := decide_eq_false h
theorem getD_at {T : Type} (u : List T) (d : T) {i : Nat} (h : i < u.length) : List.getD u i d = u[i] := by simp [List.getD, h]
theorem cond_k {α : Type} (K : Bool → Option α) (b x y : Bool) : cond b (K x) (K y) = K (cond b x y) := by cases b <;> rfl
theorem cond_dec {β : Type} {p q r : Prop} [Decidable p] [Decidable q] [Decidable r] (h : p ↔ q ∧ r) (x y : β) : cond (!(decide q)) y (cond (decide r) x y) = cond (decide p) x y := by
  by_cases hq : q <;> by_cases hr : r <;> simp [hq, hr, h]
theorem loopR {β : Type} (F : Nat → Nat → β) (R : Nat → β) (n : Nat) (he : ∀ m, F (m + 1) n = R n) (hs : ∀ m i, i < n → F m (i + 1) = R (i + 1) → F (m + 1) i = R i) : ∀ (d i m : Nat), i + d = n → d < m → F m i = R i
  | 0, i, m, hi, hm => by
    obtain ⟨m, rfl⟩ : ∃ n, m = n + 1 := ⟨m - 1, by omega⟩
    obtain rfl : i = n := by omega
    exact he m
  | d + 1, i, m, hi, hm => by
    obtain ⟨m, rfl⟩ : ∃ n, m = n + 1 := ⟨m - 1, by omega⟩
    exact hs m i (by omega) (loopR F R n he hs d (i + 1) m (by omega) (by omega))
theorem take_snoc {T : Type} (l : List T) {i : Nat} (h : i < l.length) : l.take i ++ [l[i]] = l.take (i + 1) := by rw [List.take_succ_eq_append_getElem h]
theorem set_over {T : Type} (l u : List T) {i : Nat} (h : i < l.length) (hl : l.length = u.length) : (l.take i ++ u.drop i).set i l[i] = l.take (i + 1) ++ u.drop (i + 1) := by
  have h1 : (l.take i).length = i := by rw [List.length_take]; omega
  rw [List.set_append_right _ _ (by omega), h1, Nat.sub_self, List.drop_eq_getElem_cons (by omega), List.set_cons_zero, List.take_succ_eq_append_getElem h, List.append_assoc]; rfl
theorem cast_lt {i n : Nat} (h : i < n) : (0 : Int) ≤ (i : Int) ∧ (i : Int) < (n : Nat) := ⟨by omega, by omega⟩
theorem getD_set_at {T : Type} (l : List T) (d x : T) {i : Nat} (h : i < l.length) : List.getD (l.set i x) i d = x := by simp [List.getD, h]
end Go.Proofs.YtlmmgjngihlpeaaDoor.Sx
