/-
  DERIVED. GIVEN WITH THE SEED: THE CARDS: each row of YtlmmgjngihlpeaaGreatDoorRows.lean that lists a variable, with what it lists TIED to the program's text (the seventh form; the later family's looks); each row that meets fmt, with fmt's text TOLD by the authors' own Lean function (tested against real Go, not proved from fmt's source: count such statements apart). THE CARD IS WHAT COUNTS. Prove the row's statement (the work); the ties are given (YtlmmgjngihlpeaaGreatDoorTie.lean); close each card by the builder's one call (the guide's Derived/Test/ToyasCard.lean, 'card_holds'). Laid BY PROGRAM, IN A SANDBOX (cutbox-door.mjs). By AI agents, Wed Nov 11 2026. No macro, syntax, notation, axiom, sorry.
-/
import Derived.Test.YtlmmgjngihlpeaaGreatDoorRows
import GoSem.ClaimSeven
namespace Go.Proofs.YtlmmgjngihlpeaaGreatDoor
namespace Rows

/-- THE TIED CARD OF 'laws.FnShared'. -/
def fnSharedCard : Claim7 := { stood := { row := fnSharedRow, standIns := [], harness := (true, "d39ab3fe49dffbf2eb456ae65e274224dffccaf56e21e26f6718113055f8ecb9"), looks := true }, kinds := [], alts := [], laidByText := true, laidKinds := [.data, .data, .data, .data, .sentinel, .sentinel, .pinned], laidTests := true, laidLooks := .later }
def FnSharedCardSaid : Prop := Claim7.holds Tryz.pinned (.plain (OpenSpec.ofChange fnSharedSpec)) fnSharedCard

/-- THE TIED CARD OF 'laws.FnExactDecimalOf'. -/
def fnExactDecimalOfCard : Claim7 := { stood := { row := fnExactDecimalOfRow, standIns := [], harness := (true, "d39ab3fe49dffbf2eb456ae65e274224dffccaf56e21e26f6718113055f8ecb9"), looks := true }, kinds := [], alts := [], laidByText := true, laidKinds := [.data, .data, .data], laidTests := true, laidLooks := .later }
def FnExactDecimalOfCardSaid : Prop := Claim7.holds Tryz.pinned (.plain (OpenSpec.ofChange fnExactDecimalOfSpec)) fnExactDecimalOfCard

/-- THE SECOND FORM's CARD OF 'laws.FnShared'. -/
def fnSharedUptoCard : Claim7 := { stood := { row := fnSharedUptoRow, standIns := [], harness := (true, "d39ab3fe49dffbf2eb456ae65e274224dffccaf56e21e26f6718113055f8ecb9"), looks := true }, kinds := [], alts := [], laidByText := true, laidKinds := [.data, .data, .data, .data, .sentinel, .sentinel, .pinned], laidTests := true, laidLooks := .later }
def FnSharedUptoCardSaid : Prop := Claim7.holds Tryz.pinned (.plain (OpenSpec.upto fnSharedSpec)) fnSharedUptoCard

/-- THE SECOND FORM's CARD OF 'laws.FnExactDecimalOf'. -/
def fnExactDecimalOfUptoCard : Claim7 := { stood := { row := fnExactDecimalOfUptoRow, standIns := [], harness := (true, "d39ab3fe49dffbf2eb456ae65e274224dffccaf56e21e26f6718113055f8ecb9"), looks := true }, kinds := [], alts := [], laidByText := true, laidKinds := [.data, .data, .data], laidTests := true, laidLooks := .later }
def FnExactDecimalOfUptoCardSaid : Prop := Claim7.holds Tryz.pinned (.plain (OpenSpec.upto fnExactDecimalOfSpec)) fnExactDecimalOfUptoCard
end Rows
end Go.Proofs.YtlmmgjngihlpeaaGreatDoor
