/- What the listed variables hold, as the evaluator has it. Our own work. -/
import Derived.Test.YtlmmgjngihlpeaaDoorSxQ
import Derived.OpenShut
import Derived.MakeChecks
import Derived.ProofKit
namespace Go.Proofs.YtlmmgjngihlpeaaDoor.Sx
open Go
set_option linter.unusedVariables false
set_option linter.unusedSimpArgs false
variable {P : Program}
theorem arr_ints {H : Type} {enc : TypeId × Value → H} {W : World} {held : Bool} {fuel t n e : Nat} {kd : IntKind} {cs : List Value} {L : List Int} {p : List MemPlace} (hu : P.underlying t = some (.array n e)) (he : P.underlying e = some (.int kd)) (hc : P.cellsOf e = 1)
    (h : DataW.trod enc P W 0 (fun _ => true) held fuel t cs = some (.agg (L.map fun x => .lit (.int kd x)), p)) : ∀ (j : Nat) (x : Int), L[j]? = some x → cs[j]? = some (Value.int kd x) := by
  obtain ⟨xs, m, rfl, hx, hl, hn, hel⟩ := DataW.trod_array hu h
  simp only [Prod.mk.injEq, DataW.agg.injEq] at hx
  intro j x hj
  have hlen : L.length = n := by
    have := congrArg List.length hx.1
    simpa [hn] using this
  have hjn : j < n := by rw [← hlen]; exact (List.getElem?_eq_some_iff.1 hj).1
  have hxj : xs[j]? = some (xs[j]'(by omega)) := List.getElem?_eq_getElem (by omega)
  have h1 := hel j hjn
  rw [hxj, hc, Nat.mul_one] at h1
  obtain ⟨k, e1, e2, _⟩ := DataW.trod_int he h1
  have e3 : (L.map fun x => (DataW.lit (.int kd x) : DataW H))[j]? = (xs.map (·.1))[j]? := by rw [hx.1]
  rw [List.getElem?_map, List.getElem?_map, hj, hxj, e2] at e3
  simp only [Option.map_some, Option.some.injEq, DataW.lit.injEq, Lit.int.injEq, true_and] at e3
  subst e3
  have e4 : (cs.drop j)[0]? = some (Value.int kd x) := by
    have := congrArg (fun l => l[0]?) e1
    simp only [List.getElem?_cons_zero] at this
    rw [List.getElem?_take_of_lt (by decide)] at this
    exact this
  simpa using e4
theorem laid_glob {name : String} {t n e g : Nat} {kd : IntKind} {L : List Int} {cs : Array Value} {W : World} {fuel : Nat} {p : List MemPlace} (hg : P.globalNamed name = some g) (hv : W.var? P name = some cs)
    (hd : DataW.trod (fun _ => ()) P W 0 (fun _ => true) false fuel t cs.toList = some (.agg (L.map fun x => .lit (.int kd x)), p)) (hu : P.underlying t = some (.array n e)) (he : P.underlying e = some (.int kd)) (hc : P.cellsOf e = 1) :
    g < W.heap.size ∧ ∀ (j : Nat) (x : Int), L[j]? = some x → W.cell? ⟨g, j, none⟩ = some (.int kd x) := by
  refine ⟨?_, fun j x hj => ?_⟩
  · simp only [World.var?, hg, Option.bind_some] at hv
    split at hv
    · rename_i h; exact (Array.getElem?_eq_some_iff.1 h).1
    · cases hv
  · rw [World.var?_cell hg hv j, ← Array.getElem?_toList]
    exact arr_ints hu he hc hd j x hj
end Go.Proofs.YtlmmgjngihlpeaaDoor.Sx
