/- The row of FnExactReadTerm, and its tied card. Printed by our own sx.py. -/
import Derived.Test.YtlmmgjngihlpeaaDoorRows
import Derived.Test.YtlmmgjngihlpeaaDoorTie
import Derived.Test.YtlmmgjngihlpeaaDoorCards
import Derived.Test.YtlmmgjngihlpeaaDoorRdL
import Derived.Test.YtlmmgjngihlpeaaDoorSxS
import Derived.Test.YtlmmgjngihlpeaaDoorSxGl
import Derived.WalkKit
import Derived.ProofKit
import Derived.LaidMore
import Derived.OpenShut
import Derived.Stop.Joined
import Derived.SevenTiedAt
import Derived.Lay
import Derived.HandedShaped
import Derived.Stop.LaidErr
namespace Go.Proofs.YtlmmgjngihlpeaaDoor.fnExactReadTerm
open Go Go.ChangeShapes Go.WideShapes Go.ChangeAt Go.RowKit
set_option linter.unusedVariables false
set_option maxRecDepth 100000
theorem star : "*" ++ "errors.errorString" = "*errors.errorString" := by decide
theorem rowE (u : TypeId) (h : Tryd.prog.typeName? 3 u = some "*errors.errorString") : u = 200 :=
  typeName_ptr_named (nm := "errors.errorString") (by rw [star]; kernel_rfl) (by kernel_rfl) (by decide) u (by rw [star]; exact h)
theorem sent {n : String} {text : List UInt8} {r : List (String × DataW Unit)} {W : World} {g : Nat} (h : laidMet Tryd.prog ((n, .iface "*errors.errorString" (.ptr (.agg [.lit (.string text)]))) :: r) W)
    (hg : Tryd.prog.globalNamed n = some g) (ht : (Tryd.prog.globals[g]?).map (·.type) = some 68) : g < W.heap.size ∧ ∃ t v, W.cell? ⟨g, 0, none⟩ = some (.iface t v) := by
  obtain ⟨a0, s0, hv0, -, -, -⟩ := laid_sentinel h hg ht (show Tryd.prog.underlying 68 = some (.interface #[("Error", 73)]) by kernel_rfl) rowE (show Tryd.prog.underlying 200 = some (.pointer 202) by kernel_rfl)
    (show Tryd.prog.underlying 202 = some (.struct #[{ name := "s", type := 9, offset := 0, embedded := false, tag := "", pkgPath := "errors", byteOffset := 0 }]) by kernel_rfl) (ts := 9) rfl rfl (by kernel_rfl) (by kernel_rfl) (by kernel_rfl)
  have h0 := World.var?_cell hg hv0 0
  refine ⟨?_, _, _, by simpa using h0⟩
  simp only [World.var?, hg, Option.bind_some] at hv0
  split at hv0
  · rename_i h; exact (Array.getElem?_eq_some_iff.1 h).1
  · cases hv0
theorem globOk {W : World} (h : laidMetH Tryd.prog Rows.fnExactReadTermRow.laid W) : Sx.GlobOk W [] := by
  rw [MakeChecks.laidMetH_plain _ _ _ (by kernel_rfl)] at h
  have hT := h.tail.tail
  obtain ⟨_, ⟨g0, t0, cs0, f0, p0, q0, hg, ht, hv, hd, _⟩, _, _⟩ := hT
  obtain rfl := Option.some.inj ((show Tryd.prog.globalNamed _ = some 1 by kernel_rfl).symm.trans hg)
  obtain rfl := Option.some.inj ((show (Tryd.prog.globals[1]?).map (·.type) = some 178 by kernel_rfl).symm.trans ht)
  have hq := Sx.laid_glob (L := Sx.pow10L) (kd := .u64) hg hv hd (n := 20) (e := 100) (by kernel_rfl) (by kernel_rfl) (by kernel_rfl)
  have s0 := sent (g := 3) h.tail.tail.tail.tail (by kernel_rfl) (by kernel_rfl)
  have s1 := sent (g := 2) h.tail.tail.tail.tail.tail (by kernel_rfl) (by kernel_rfl)
  refine ⟨fun p hp => ?_, fun g hg => ?_⟩
  · obtain rfl : p = (1, .u64, Sx.pow10L) := by simpa [Sx.globs] using hp
    exact ⟨by simp, hq.1, hq.2⟩
  · have : g = 2 ∨ g = 3 := by simpa [Sx.globI] using hg
    rcases this with rfl | rfl
    · exact ⟨by simp, s1.1, s1.2⟩
    · exact ⟨by simp, s0.1, s0.2⟩
theorem inPlace_ : ((Rows.fnExactReadTermRow).inPlace == Tryd.prog.inPlace 6) = true := by kernel_rfl
theorem unfollowed_ : ((Rows.fnExactReadTermRow).unfollowed == Tryd.prog.unfollowed 6) = true := by kernel_rfl
theorem recurses_ : ((Rows.fnExactReadTermRow).recurses == Tryd.prog.recurses 6) = true := by kernel_rfl
theorem named_ : ((Rows.fnExactReadTermRow).named == Tryd.prog.varsNamed 6) = true := by kernel_rfl
theorem facts_ : joinedFacts Tryd.prog 6 Tryd.f6 Rows.fnExactReadTermSpec Rows.fnExactReadTermRow = true :=
  Sx.facts_of (by kernel_rfl) Sx.laidOut_ Sx.mapsRowed_ (by kernel_rfl) (by kernel_rfl) (by kernel_rfl) inPlace_ unfollowed_ recurses_ named_ (by kernel_rfl) (by kernel_rfl) (by kernel_rfl) (by kernel_rfl) (by kernel_rfl)
    (by kernel_rfl) (by kernel_rfl) (by kernel_rfl) (by kernel_rfl) (by kernel_rfl) rfl Sx.heard_ Sx.mayEnter_ rfl Sx.liftsFinal_ Sx.make_ rfl rfl rfl (by kernel_rfl) (by kernel_rfl) (by kernel_rfl)
theorem lifted (os : Os) (started : os.Started) (H : Type) (enc : TypeId × Value → H) :
    ReturnsInHanded {} Tryd.checked os 6 .any (fun w args => (Rows.fnExactReadTermSpec.pre enc Tryd.prog Tryd.f6 [] false w args ∧ laidMetH Tryd.prog Rows.fnExactReadTermRow.laid w) ∧ sizedMet enc Tryd.prog Tryd.f6 (OpenSpec.ofChange Rows.fnExactReadTermSpec) false w args)
      (Rows.fnExactReadTermSpec.post enc Tryd.prog Tryd.f6 false true false false) := by
  refine returnsInHanded_of_change_and (C := Tryd.checked) (X := fun w _ => laidMetH Tryd.prog Rows.fnExactReadTermRow.laid w) (fun _ _ _ hh h => h.of_heap hh) Sx.own_ started (by kernel_rfl) Tryd.func6
    (ChangeSpec.witness_shaped (enc := enc) (C := Tryd.checked) (os := os) (X := fun w _ => laidMetH Tryd.prog Rows.fnExactReadTermRow.laid w) false (World.laidAll Tryd.prog os Rows.fnExactReadTermRow.laid) #[.string ⟨#[]⟩] 8 (World.laidAll_os _ _ _) (World.shaped_of_ZipB (by kernel_rfl) (by kernel_rfl)) (by kernel_rfl) (by kernel_rfl) (by kernel_rfl) (by rw [MakeChecks.laidMetH_plain _ _ _ (by kernel_rfl)]; exact laidMet_laidAll _ (by kernel_rfl) (by kernel_rfl))) ?_
  intro W base args ds gs before hval0 hW _ _ hL _
  exact Sx.law_post (fn := Tryd.f6) (s := Rows.fnExactReadTermSpec) (globOk hL) (Sx.g6Fn 1048577) Sx.readLaw' (by kernel_rfl) Sx.laidOut_ (by kernel_rfl) rfl (fun H ds h => by
    match ds, h with
    | [d0], _ => rfl) rfl Tryd.underlying4 hval0 hW
theorem over : Rows.fnExactReadTermRow.holds Tryd.pinned (OpenSpec.ofChange Rows.fnExactReadTermSpec) :=
  OpenClaim.holds_of_wide 6 Tryd.f6 rfl rfl rfl rfl rfl rfl rfl ⟨rfl, rfl, rfl, rfl, rfl⟩ rfl rfl rfl rfl rfl (by kernel_rfl) Tryd.func6 facts_
    (of_decide_eq_true (by kernel_rfl)) (by unfold Func.isWrapper; first | (rw [if_pos (by decide +kernel)]; kernel_rfl) | (rw [if_neg (by decide +kernel)]; exact ⟨rfl, rfl⟩))
    (fun os started H enc _ => lifted os started H enc)
theorem proved : Rows.FnExactReadTermCardSaid :=
  Claim7.holds_tied_plain_at .later [] Rows.fnExactReadTermCard.laidKinds true Rows.fnExactReadTermCard.stood.harness Rows.fnExactReadTermCard.stood.looks
    over (fun _ h => by cases h) (by kernel_rfl) (fun _ h => by cases h) fnExactReadTerm_row_tie rfl ⟨rfl, rfl⟩ (by kernel_rfl) rfl
    (fun f fn hf hfn => by
      obtain rfl : f = 6 := Option.some.inj ((show Tryd.prog.funcNamed _ = some 6 by kernel_rfl).symm.trans hf) |>.symm
      obtain rfl : fn = Tryd.f6 := (Option.some.inj (Tryd.func6.symm.trans hfn)).symm
      exact ⟨by kernel_rfl, fun j t ht => by
        have hm : t ∈ [9] := by
          have := Array.mem_of_getElem? ht
          simpa [Tryd.f6] using this
        have hall : ([9].all fun u => !Tryd.prog.wantsStandIn u) = true := by kernel_rfl
        exact (show Tryd.prog.wantsStandIn t = false by simpa using List.all_eq_true.1 hall t hm)⟩)
    (by kernel_rfl)
#print axioms proved
end Go.Proofs.YtlmmgjngihlpeaaDoor.fnExactReadTerm
namespace Go.Proofs.YtlmmgjngihlpeaaDoor
theorem fnExactReadTerm_holds : Rows.FnExactReadTermCardSaid := fnExactReadTerm.proved
end Go.Proofs.YtlmmgjngihlpeaaDoor
