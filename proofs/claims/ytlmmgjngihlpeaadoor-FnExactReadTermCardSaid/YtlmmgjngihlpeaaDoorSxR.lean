/- The closed facts of a row, part by part: so that the kernel reckons each of them apart. Our own work. -/
import Derived.Test.YtlmmgjngihlpeaaDoorSxQ
import Derived.ChangeOld
import Derived.SizedLaws
import Derived.JoinedOf
namespace Go.Proofs.YtlmmgjngihlpeaaDoor.Sx
open Go
set_option linter.unusedVariables false
set_option linter.unusedSimpArgs false
theorem ws_space (r : List Char) : wordsSigns (Char.ofNat 32 :: r) = [] :: wordsSigns r := by kernel_rfl
theorem ws_char {c : Char} (h : c ≠ Char.ofNat 32) (r w : List Char) (ws : List (List Char)) (hr : wordsSigns r = w :: ws) : wordsSigns (c :: r) = (c :: w) :: ws := by
  rw [wordsSigns, hr]
  exact fun e => h e
theorem ws_word : ∀ (w r : List Char), (w.all fun c => !(c == Char.ofNat 32)) = true → wordsSigns (w ++ Char.ofNat 32 :: r) = w :: wordsSigns r
  | [], r, _ => ws_space r
  | c :: w, r, h => by
    simp only [List.all_cons, Bool.and_eq_true, Bool.not_eq_true', beq_eq_false_iff_ne] at h
    exact ws_char h.1 _ _ _ (ws_word w r h.2)
def cutWord : List Char := [99, 117, 116].map Char.ofNat
theorem behind_of {P : Program} {A B D : List Char} (io : P.initOrder = String.ofList (A ++ Char.ofNat 32 :: (B ++ Char.ofNat 32 :: (cutWord ++ Char.ofNat 32 :: D))))
    (hA : (A.all fun c => !(c == Char.ofNat 32)) = true) (hB : (B.all fun c => !(c == Char.ofNat 32)) = true) (hh : (A == "harness".toList) = true) (hs : isSumSigns B = true) :
    ∃ X, behindMainWord (wordsSigns P.initOrder.toList) = cutWord :: X := by
  refine ⟨wordsSigns D, ?_⟩
  rw [io, String.toList_ofList, ws_word _ _ hA, ws_word _ _ hB, ws_word _ _ (by kernel_rfl)]
  generalize wordsSigns D = X
  simp only [behindMainWord, hh, hs, Bool.true_or, Bool.and_self, if_true]
theorem make_of {P : Program} (h : ∃ X, behindMainWord (wordsSigns P.initOrder.toList) = cutWord :: X) : P.make = some .cut := by
  obtain ⟨X, h⟩ := h
  unfold Program.make
  rw [h]
  kernel_rfl
theorem liftsFinal_of {P : Program} (h : ∃ X, behindMainWord (wordsSigns P.initOrder.toList) = cutWord :: X) : P.liftsFinal = false := by
  obtain ⟨X, h⟩ := h
  unfold Program.liftsFinal Program.headLifts
  simp only [h]
  kernel_rfl
theorem mayEnter_of {P : Program} (h : ∃ X, behindMainWord (wordsSigns P.initOrder.toList) = cutWord :: X) (h1 : P.laysLater = false) (h2 : P.bearsReflect = false) (h3 : P.doorFits [] = true) : P.mayEnter = true := by
  obtain ⟨X, h⟩ := h
  unfold Program.mayEnter
  rw [h, h1, h2]
  have hs : (stripLifts liftWords (cutWord :: X)).1 = [] := by kernel_rfl
  have hd : P.doorFits (stripLifts liftWords (cutWord :: X)).1 = true := by rw [hs]; exact h3
  dsimp only
  rw [hd]
  change _ = true
  kernel_rfl
theorem facts_of {P : Program} {f : FuncId} {fn : Func} {s : ChangeSpec} {c : OpenClaim}
    (h1 : c.wf (OpenSpec.ofChange s) = true) (h2 : laidOutB P = true) (h3 : mapsRowed P = true)
    (h4 : fn.params.all (P.readableRec ·) = true) (h5 : namedTie P c.named s.vars = true)
    (h6 : ((c.stops == []) && (P.stops == []) && (c.knobs == []) && (P.stopKnobs == [])) = true)
    (h7 : (c.inPlace == P.inPlace f) = true) (h8 : (c.unfollowed == P.unfollowed f) = true) (h9 : (c.recurses == P.recurses f) = true) (h10 : (c.named == P.varsNamed f) = true)
    (h11 : (c.maps == (fn.params.toList ++ s.plain.varTypes P).any (P.mapsRec ·)) = true) (h12 : (c.ifaces == (fn.params.toList ++ s.plain.varTypes P).any (P.ifacesRec ·)) = true)
    (h13 : (c.mapsOut == P.mapsAmong fn.resultTypes.toList) = true)
    (h14 : (c.loops == (fn.params.toList ++ s.plain.varTypes P).any (P.loopsFrom ·)) = true)
    (h15 : (c.wideKeys == (fn.params.toList ++ s.plain.varTypes P ++ fn.resultTypes.toList).any (P.wideKeysFrom ·)) = true)
    (h16 : s.vars.all (P.varReadable ·) = true) (h17 : fn.resultTypes.all (fun t => P.readableRec t && decide (t < P.types.size)) = true)
    (h18 : (c.ifacesOut == fn.resultTypes.toList.any (P.ifacesRec ·)) = true) (h19 : (c.loopsOut == fn.resultTypes.toList.any (P.loopsFrom ·)) = true)
    (h20 : (c.plainKeys == P.plainKeys) = true) (h21 : c.shortTexts.isNone = true) (h22 : P.stopsHeard = true) (h23 : P.mayEnter = true) (h24 : c.lifted = false) (h24' : P.liftsFinal = false)
    (h25 : P.make = some .cut) (h25' : c.make = .cut)
    (h26 : c.kinds = []) (h26' : c.domain = []) (h27 : (c.pinned == c.pinnedBy) = true)
    (h28 : (c.veiled == (fn.params.toList ++ s.plain.varTypes P ++ fn.resultTypes.toList).any (P.veiledRec ·)) = true)
    (h29 : c.veiledFits P fn.params.toList (fn.params.toList ++ s.plain.varTypes P ++ fn.resultTypes.toList) = true) : joinedFacts P f fn s c = true := by
  simp only [Bool.and_eq_true] at h6
  unfold joinedFacts
  rw [h1, h2, h3, h4, h5, h6.1.1.1, h6.1.1.2, h6.1.2, h6.2, h7, h8, h9, h10, h11, h12, h13, h14, h15, h16, h17, h18, h19, h20, h21, h22, h23, h24, h24', h25, h25', h26, h26', h27, h28, h29]
  kernel_rfl
end Go.Proofs.YtlmmgjngihlpeaaDoor.Sx
