/-
  DERIVED. GIVEN WITH THE SEED: THE CARDS: each row of YtlmmgjngihlpeaaDoorRows.lean that lists a variable, with what it lists TIED to the program's text (the seventh form; the later family's looks); each row that meets fmt, with fmt's text TOLD by the authors' own Lean function (tested against real Go, not proved from fmt's source: count such statements apart). THE CARD IS WHAT COUNTS. Prove the row's statement (the work); the ties are given (YtlmmgjngihlpeaaDoorTie.lean); close each card by the builder's one call (the guide's Derived/Test/ToyasCard.lean, 'card_holds'). Laid BY PROGRAM, IN A SANDBOX (cutbox-door.mjs). By AI agents, Wed Nov 11 2026. No macro, syntax, notation, axiom, sorry.
-/
import Derived.Test.YtlmmgjngihlpeaaDoorRows
import GoSem.ClaimSeven
namespace Go.Proofs.YtlmmgjngihlpeaaDoor
namespace Rows

/-- THE TIED CARD OF 'laws.FnExactTermText'. -/
def fnExactTermTextCard : Claim7 := { stood := { row := fnExactTermTextRow, standIns := [], harness := (true, "1b4478815385620bfd331f05d40540f2827c93f4e2e360482bcbf5707f710892"), looks := true }, kinds := [], alts := [], laidByText := true, laidKinds := [.data, .data, .data], laidTests := true, laidLooks := .later }
def FnExactTermTextCardSaid : Prop := Claim7.holds Tryd.pinned (.plain (OpenSpec.ofChange fnExactTermTextSpec)) fnExactTermTextCard

/-- THE TIED CARD OF 'laws.FnExactWideText'. -/
def fnExactWideTextCard : Claim7 := { stood := { row := fnExactWideTextRow, standIns := [], harness := (true, "1b4478815385620bfd331f05d40540f2827c93f4e2e360482bcbf5707f710892"), looks := true }, kinds := [], alts := [], laidByText := true, laidKinds := [.data, .data, .data], laidTests := true, laidLooks := .later }
def FnExactWideTextCardSaid : Prop := Claim7.holds Tryd.pinned (.plain (OpenSpec.ofChange fnExactWideTextSpec)) fnExactWideTextCard

/-- THE TIED CARD OF 'laws.FnWides'. -/
def fnWidesCard : Claim7 := { stood := { row := fnWidesRow, standIns := [], harness := (true, "1b4478815385620bfd331f05d40540f2827c93f4e2e360482bcbf5707f710892"), looks := true }, kinds := [], alts := [], laidByText := true, laidKinds := [.data, .data, .data], laidTests := true, laidLooks := .later }
def FnWidesCardSaid : Prop := Claim7.holds Tryd.pinned (.plain (OpenSpec.ofChange fnWidesSpec)) fnWidesCard

/-- THE TIED CARD OF 'laws.FnExactReadTerm'. -/
def fnExactReadTermCard : Claim7 := { stood := { row := fnExactReadTermRow, standIns := [], harness := (true, "1b4478815385620bfd331f05d40540f2827c93f4e2e360482bcbf5707f710892"), looks := true }, kinds := [], alts := [], laidByText := true, laidKinds := [.data, .data, .data, .data, .sentinel, .sentinel, .pinned], laidTests := true, laidLooks := .later }
def FnExactReadTermCardSaid : Prop := Claim7.holds Tryd.pinned (.plain (OpenSpec.ofChange fnExactReadTermSpec)) fnExactReadTermCard

/-- THE SECOND FORM's CARD OF 'laws.FnExactTermText'. -/
def fnExactTermTextUptoCard : Claim7 := { stood := { row := fnExactTermTextUptoRow, standIns := [], harness := (true, "1b4478815385620bfd331f05d40540f2827c93f4e2e360482bcbf5707f710892"), looks := true }, kinds := [], alts := [], laidByText := true, laidKinds := [.data, .data, .data], laidTests := true, laidLooks := .later }
def FnExactTermTextUptoCardSaid : Prop := Claim7.holds Tryd.pinned (.plain (OpenSpec.upto fnExactTermTextSpec)) fnExactTermTextUptoCard

/-- THE SECOND FORM's CARD OF 'laws.FnExactWideText'. -/
def fnExactWideTextUptoCard : Claim7 := { stood := { row := fnExactWideTextUptoRow, standIns := [], harness := (true, "1b4478815385620bfd331f05d40540f2827c93f4e2e360482bcbf5707f710892"), looks := true }, kinds := [], alts := [], laidByText := true, laidKinds := [.data, .data, .data], laidTests := true, laidLooks := .later }
def FnExactWideTextUptoCardSaid : Prop := Claim7.holds Tryd.pinned (.plain (OpenSpec.upto fnExactWideTextSpec)) fnExactWideTextUptoCard

/-- THE SECOND FORM's CARD OF 'laws.FnWides'. -/
def fnWidesUptoCard : Claim7 := { stood := { row := fnWidesUptoRow, standIns := [], harness := (true, "1b4478815385620bfd331f05d40540f2827c93f4e2e360482bcbf5707f710892"), looks := true }, kinds := [], alts := [], laidByText := true, laidKinds := [.data, .data, .data], laidTests := true, laidLooks := .later }
def FnWidesUptoCardSaid : Prop := Claim7.holds Tryd.pinned (.plain (OpenSpec.upto fnWidesSpec)) fnWidesUptoCard

/-- THE SECOND FORM's CARD OF 'laws.FnExactReadTerm'. -/
def fnExactReadTermUptoCard : Claim7 := { stood := { row := fnExactReadTermUptoRow, standIns := [], harness := (true, "1b4478815385620bfd331f05d40540f2827c93f4e2e360482bcbf5707f710892"), looks := true }, kinds := [], alts := [], laidByText := true, laidKinds := [.data, .data, .data, .data, .sentinel, .sentinel, .pinned], laidTests := true, laidLooks := .later }
def FnExactReadTermUptoCardSaid : Prop := Claim7.holds Tryd.pinned (.plain (OpenSpec.upto fnExactReadTermSpec)) fnExactReadTermUptoCard
end Rows
end Go.Proofs.YtlmmgjngihlpeaaDoor
