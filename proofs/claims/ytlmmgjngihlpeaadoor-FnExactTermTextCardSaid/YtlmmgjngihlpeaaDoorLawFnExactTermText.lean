/- The row of FnExactTermText, and its tied card. Printed by our own sx.py. -/
import Derived.Test.YtlmmgjngihlpeaaDoorRows
import Derived.Test.YtlmmgjngihlpeaaDoorTie
import Derived.Test.YtlmmgjngihlpeaaDoorCards
import Derived.Test.YtlmmgjngihlpeaaDoorTrmL
import Derived.Test.YtlmmgjngihlpeaaDoorSxS
import Derived.Test.YtlmmgjngihlpeaaDoorSxGl
import Derived.WalkKit
import Derived.ProofKit
import Derived.LaidMore
import Derived.OpenShut
import Derived.Stop.Joined
import Derived.SevenTiedAt
import Derived.HandedShaped
namespace Go.Proofs.YtlmmgjngihlpeaaDoor.fnExactTermText
open Go Go.ChangeShapes Go.WideShapes Go.ChangeAt Go.RowKit
set_option linter.unusedVariables false
set_option maxRecDepth 100000
theorem globOk {W : World} (h : laidMetH Tryd.prog Rows.fnExactTermTextRow.laid W) : Sx.GlobOk W [] := by
  rw [MakeChecks.laidMetH_plain _ _ _ (by kernel_rfl)] at h
  obtain ⟨_, ⟨_, _, _, _, _, _, _, _, _, _, ⟨_, _, _, _, _, _, _, _, _, _, ⟨g0, t0, cs0, f0, p0, q0, hg, ht, hv, hd, _⟩, _⟩, _⟩, _, _⟩ := h
  obtain rfl := Option.some.inj ((show Tryd.prog.globalNamed _ = some 1 by kernel_rfl).symm.trans hg)
  obtain rfl := Option.some.inj ((show (Tryd.prog.globals[1]?).map (·.type) = some 178 by kernel_rfl).symm.trans ht)
  have hq := Sx.laid_glob (L := Sx.pow10L) (kd := .u64) hg hv hd (n := 20) (e := 100) (by kernel_rfl) (by kernel_rfl) (by kernel_rfl)
  refine ⟨fun p hp => ?_, fun g hg => nomatch (show g ∈ ([] : List Nat) from hg)⟩
  obtain rfl : p = (1, .u64, Sx.pow10L) := by simpa [Sx.globs] using hp
  exact ⟨by simp, hq.1, hq.2⟩
theorem door_met (os : Os) (args : Array Value) : laidMetH Tryd.prog Rows.fnExactTermTextRow.laid ((World.doorLaid Tryd.prog 72 os).forCall (fun _ _ => 0) ⟨#[], args, []⟩).memory :=
  laidMetH_of_parts3 (fuel := 8) (laidMet_of_run' 8 (by kernel_rfl) (by kernel_rfl)) (by kernel_rfl) (by kernel_rfl)
theorem inPlace_ : ((Rows.fnExactTermTextRow).inPlace == Tryd.prog.inPlace 3) = true := by kernel_rfl
theorem unfollowed_ : ((Rows.fnExactTermTextRow).unfollowed == Tryd.prog.unfollowed 3) = true := by kernel_rfl
theorem recurses_ : ((Rows.fnExactTermTextRow).recurses == Tryd.prog.recurses 3) = true := by kernel_rfl
theorem named_ : ((Rows.fnExactTermTextRow).named == Tryd.prog.varsNamed 3) = true := by kernel_rfl
theorem facts_ : joinedFacts Tryd.prog 3 Tryd.f3 Rows.fnExactTermTextSpec Rows.fnExactTermTextRow = true :=
  Sx.facts_of (by kernel_rfl) Sx.laidOut_ Sx.mapsRowed_ (by kernel_rfl) (by kernel_rfl) (by kernel_rfl) inPlace_ unfollowed_ recurses_ named_ (by kernel_rfl) (by kernel_rfl) (by kernel_rfl) (by kernel_rfl) (by kernel_rfl)
    (by kernel_rfl) (by kernel_rfl) (by kernel_rfl) (by kernel_rfl) (by kernel_rfl) rfl Sx.heard_ Sx.mayEnter_ rfl Sx.liftsFinal_ Sx.make_ rfl rfl rfl (by kernel_rfl) (by kernel_rfl) (by kernel_rfl)
theorem lifted (os : Os) (started : os.Started) (H : Type) (enc : TypeId × Value → H) :
    ReturnsInHanded {} Tryd.checked os 3 .any (fun w args => (Rows.fnExactTermTextSpec.pre enc Tryd.prog Tryd.f3 [] false w args ∧ laidMetH Tryd.prog Rows.fnExactTermTextRow.laid w) ∧ sizedMet enc Tryd.prog Tryd.f3 (OpenSpec.ofChange Rows.fnExactTermTextSpec) false w args)
      (Rows.fnExactTermTextSpec.post enc Tryd.prog Tryd.f3 false true false false) := by
  refine returnsInHanded_of_change_and (C := Tryd.checked) (X := fun w _ => laidMetH Tryd.prog Rows.fnExactTermTextRow.laid w) (fun _ _ _ hh h => h.of_heap hh) Sx.own_ started (by kernel_rfl) Tryd.func3
    (ChangeSpec.witness_shaped (enc := enc) (C := Tryd.checked) (os := os) (X := fun w _ => laidMetH Tryd.prog Rows.fnExactTermTextRow.laid w) false (World.doorLaid Tryd.prog 72 os) #[.slice none 0 0] 8 rfl (World.shaped_of_RefB (by kernel_rfl) (by kernel_rfl)) (by kernel_rfl) (by kernel_rfl) (by kernel_rfl) (door_met os _)) ?_
  intro W base args ds gs before hval0 hW _ _ hL _
  exact Sx.law_postA (aps := [(.sl (.rc [.i8, .i16, .i16, .i64, .i64]))]) (fn := Tryd.f3) (s := Rows.fnExactTermTextSpec) (Nat.lt_of_le_of_lt (Nat.zero_le _) ((globOk hL).1 _ (by simp [Sx.globs]; rfl)).2.1) (globOk hL) (Sx.g3Fn 1048577) Sx.termTextLaw' (by kernel_rfl) Sx.laidOut_ (by kernel_rfl) rfl (fun H ds h => by
    match ds, h with
    | [d0], _ => rfl) rfl Tryd.underlying4 hval0 hW
theorem over : Rows.fnExactTermTextRow.holds Tryd.pinned (OpenSpec.ofChange Rows.fnExactTermTextSpec) :=
  OpenClaim.holds_of_wide 3 Tryd.f3 rfl rfl rfl rfl rfl rfl rfl ⟨rfl, rfl, rfl, rfl, rfl⟩ rfl rfl rfl rfl rfl (by kernel_rfl) Tryd.func3 facts_
    (of_decide_eq_true (by kernel_rfl)) (by unfold Func.isWrapper; first | (rw [if_pos (by decide +kernel)]; kernel_rfl) | (rw [if_neg (by decide +kernel)]; exact ⟨rfl, rfl⟩))
    (fun os started H enc _ => lifted os started H enc)
theorem proved : Rows.FnExactTermTextCardSaid :=
  Claim7.holds_tied_plain_at .later [] Rows.fnExactTermTextCard.laidKinds true Rows.fnExactTermTextCard.stood.harness Rows.fnExactTermTextCard.stood.looks
    over (fun _ h => by cases h) (by kernel_rfl) (fun _ h => by cases h) fnExactTermText_row_tie rfl ⟨rfl, rfl⟩ (by kernel_rfl) rfl
    (fun f fn hf hfn => by
      obtain rfl : f = 3 := Option.some.inj ((show Tryd.prog.funcNamed _ = some 3 by kernel_rfl).symm.trans hf) |>.symm
      obtain rfl : fn = Tryd.f3 := (Option.some.inj (Tryd.func3.symm.trans hfn)).symm
      exact ⟨by kernel_rfl, fun j t ht => by
        have hm : t ∈ [22] := by
          have := Array.mem_of_getElem? ht
          simpa [Tryd.f3] using this
        have hall : ([22].all fun u => !Tryd.prog.wantsStandIn u) = true := by kernel_rfl
        exact (show Tryd.prog.wantsStandIn t = false by simpa using List.all_eq_true.1 hall t hm)⟩)
    (by kernel_rfl)
#print axioms proved
end Go.Proofs.YtlmmgjngihlpeaaDoor.fnExactTermText
namespace Go.Proofs.YtlmmgjngihlpeaaDoor
theorem fnExactTermText_holds : Rows.FnExactTermTextCardSaid := fnExactTermText.proved
end Go.Proofs.YtlmmgjngihlpeaaDoor
