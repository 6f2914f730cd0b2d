/-
  No cell of these rows narrows 'for every input' (looked for: loops, veiled, ifaces, maps, wideKeys, modest, calm, conditions, laid).
  DERIVED. THE GIVEN ROWS OF THIS SEAT. 7 by the template 'for every input the law returns true; each argument reads behind the call as it read before'; 0 by the template 'total and deterministic' (their statements: YtlmmgjngihlpeaaTotals.lean).
  GIVEN WITH THE SEED: the statements are not yours to turn. If you find one false, say at which input.
  Laid BY PROGRAM, IN A SANDBOX (cutbox-rows.mjs): the forced cells as the released guide's own fill.sh prints them over the translation afbd545e7685c03f… (all of the seat's roots in one cut). By AI agents, Wed Nov 11 2026. No macro, syntax, notation, axiom, sorry.
-/
import Derived.Test.YtlmmgjngihlpeaaChecked
import GoSem.Claim
import GoSem.ClaimJoined
import GoSem.ClaimMapViews
import Derived.JoinedTies
import Derived.KernelRfl
namespace Go.Proofs.Ytlmmgjngihlpeaa
/- THE CELL 'sum', in the pinned program and in every row, IS THE sha256 OF THE DUMP (.gsa) THAT YtlmmgjngihlpeaaProg.lean LOADS. Nothing in Lean hashes anything: it is a label: what it is worth is what the hold of that sum in a sandbox is worth. -/
noncomputable def Try.pinned : Pinned := { name := "ytlmmgjngihlpeaa", sum := "afbd545e7685c03f294572e8e07843281be222503dead2cd424a3702f1f9436c", checked := Try.checked }
namespace Rows
def none {H : Type} : Left H := { results := [], args := [] }

/-- 'laws.FnDivided': WHATEVER THE INPUT: true; the input reads as it did. -/
def fnDividedSpec : ChangeSpec := { name := "fnDivided", fn := fun _ => fun
  | [d1, d2] => { results := [.lit (.bool true)], args := [d1, d2] }
  | _ => none }
def fnDividedRow : OpenClaim := { program := "ytlmmgjngihlpeaa", sum := "afbd545e7685c03f294572e8e07843281be222503dead2cd424a3702f1f9436c", func := "loop.example/g01242/laws.FnDivided", spec := "fnDivided", plainKeys := false, apart := false }
def FnDividedSaid : Prop := fnDividedRow.holds Try.pinned (OpenSpec.ofChange fnDividedSpec)

/-- ITS FALSE NEIGHBOUR: 'it returns false'. Refute it at one input. -/
def fnDividedWrong : ChangeSpec := { name := "fnDivided", fn := fun _ => fun
  | [d1, d2] => { results := [.lit (.bool false)], args := [d1, d2] }
  | _ => none }
def FnDividedWrongFalsely : Prop := fnDividedRow.holds Try.pinned (OpenSpec.ofChange fnDividedWrong)

/-- 'laws.FnExactAwayFrom': WHATEVER THE INPUT: true; the input reads as it did. -/
def fnExactAwayFromSpec : ChangeSpec := { name := "fnExactAwayFrom", fn := fun _ => fun
  | [d1, d2] => { results := [.lit (.bool true)], args := [d1, d2] }
  | _ => none }
def fnExactAwayFromRow : OpenClaim := { program := "ytlmmgjngihlpeaa", sum := "afbd545e7685c03f294572e8e07843281be222503dead2cd424a3702f1f9436c", func := "loop.example/g01242/laws.FnExactAwayFrom", spec := "fnExactAwayFrom", recurses := true, plainKeys := false, apart := false }
def FnExactAwayFromSaid : Prop := fnExactAwayFromRow.holds Try.pinned (OpenSpec.ofChange fnExactAwayFromSpec)

/-- ITS FALSE NEIGHBOUR: 'it returns false'. Refute it at one input. -/
def fnExactAwayFromWrong : ChangeSpec := { name := "fnExactAwayFrom", fn := fun _ => fun
  | [d1, d2] => { results := [.lit (.bool false)], args := [d1, d2] }
  | _ => none }
def FnExactAwayFromWrongFalsely : Prop := fnExactAwayFromRow.holds Try.pinned (OpenSpec.ofChange fnExactAwayFromWrong)

/-- 'laws.FnExactGrowthOf': WHATEVER THE INPUT: true; the input reads as it did. -/
def fnExactGrowthOfSpec : ChangeSpec := { name := "fnExactGrowthOf", fn := fun _ => fun
  | [d1, d2] => { results := [.lit (.bool true)], args := [d1, d2] }
  | _ => none }
def fnExactGrowthOfRow : OpenClaim := { program := "ytlmmgjngihlpeaa", sum := "afbd545e7685c03f294572e8e07843281be222503dead2cd424a3702f1f9436c", func := "loop.example/g01242/laws.FnExactGrowthOf", spec := "fnExactGrowthOf", recurses := true, plainKeys := false, apart := false }
def FnExactGrowthOfSaid : Prop := fnExactGrowthOfRow.holds Try.pinned (OpenSpec.ofChange fnExactGrowthOfSpec)

/-- ITS FALSE NEIGHBOUR: 'it returns false'. Refute it at one input. -/
def fnExactGrowthOfWrong : ChangeSpec := { name := "fnExactGrowthOf", fn := fun _ => fun
  | [d1, d2] => { results := [.lit (.bool false)], args := [d1, d2] }
  | _ => none }
def FnExactGrowthOfWrongFalsely : Prop := fnExactGrowthOfRow.holds Try.pinned (OpenSpec.ofChange fnExactGrowthOfWrong)

/-- 'laws.FnExactApprox': WHATEVER THE INPUT: true; the input reads as it did. -/
def fnExactApproxSpec : ChangeSpec := { name := "fnExactApprox", fn := fun _ => fun
  | [d1, d2, d3] => { results := [.lit (.bool true)], args := [d1, d2, d3] }
  | _ => none }
def fnExactApproxRow : OpenClaim := { program := "ytlmmgjngihlpeaa", sum := "afbd545e7685c03f294572e8e07843281be222503dead2cd424a3702f1f9436c", func := "loop.example/g01242/laws.FnExactApprox", spec := "fnExactApprox", recurses := true, plainKeys := false, apart := false }
def FnExactApproxSaid : Prop := fnExactApproxRow.holds Try.pinned (OpenSpec.ofChange fnExactApproxSpec)

/-- ITS FALSE NEIGHBOUR: 'it returns false'. Refute it at one input. -/
def fnExactApproxWrong : ChangeSpec := { name := "fnExactApprox", fn := fun _ => fun
  | [d1, d2, d3] => { results := [.lit (.bool false)], args := [d1, d2, d3] }
  | _ => none }
def FnExactApproxWrongFalsely : Prop := fnExactApproxRow.holds Try.pinned (OpenSpec.ofChange fnExactApproxWrong)

/-- 'laws.FnExactSignWithin': WHATEVER THE INPUT: true; the input reads as it did. -/
def fnExactSignWithinSpec : ChangeSpec := { name := "fnExactSignWithin", fn := fun _ => fun
  | [d1, d2, d3] => { results := [.lit (.bool true)], args := [d1, d2, d3] }
  | _ => none }
def fnExactSignWithinRow : OpenClaim := { program := "ytlmmgjngihlpeaa", sum := "afbd545e7685c03f294572e8e07843281be222503dead2cd424a3702f1f9436c", func := "loop.example/g01242/laws.FnExactSignWithin", spec := "fnExactSignWithin", recurses := true, plainKeys := false, apart := false }
def FnExactSignWithinSaid : Prop := fnExactSignWithinRow.holds Try.pinned (OpenSpec.ofChange fnExactSignWithinSpec)

/-- ITS FALSE NEIGHBOUR: 'it returns false'. Refute it at one input. -/
def fnExactSignWithinWrong : ChangeSpec := { name := "fnExactSignWithin", fn := fun _ => fun
  | [d1, d2, d3] => { results := [.lit (.bool false)], args := [d1, d2, d3] }
  | _ => none }
def FnExactSignWithinWrongFalsely : Prop := fnExactSignWithinRow.holds Try.pinned (OpenSpec.ofChange fnExactSignWithinWrong)

/-- 'laws.FnExactWhichSide': WHATEVER THE INPUT: true; the input reads as it did. -/
def fnExactWhichSideSpec : ChangeSpec := { name := "fnExactWhichSide", fn := fun _ => fun
  | [d1, d2, d3, d4, d5] => { results := [.lit (.bool true)], args := [d1, d2, d3, d4, d5] }
  | _ => none }
def fnExactWhichSideRow : OpenClaim := { program := "ytlmmgjngihlpeaa", sum := "afbd545e7685c03f294572e8e07843281be222503dead2cd424a3702f1f9436c", func := "loop.example/g01242/laws.FnExactWhichSide", spec := "fnExactWhichSide", recurses := true, plainKeys := false, apart := false }
def FnExactWhichSideSaid : Prop := fnExactWhichSideRow.holds Try.pinned (OpenSpec.ofChange fnExactWhichSideSpec)

/-- ITS FALSE NEIGHBOUR: 'it returns false'. Refute it at one input. -/
def fnExactWhichSideWrong : ChangeSpec := { name := "fnExactWhichSide", fn := fun _ => fun
  | [d1, d2, d3, d4, d5] => { results := [.lit (.bool false)], args := [d1, d2, d3, d4, d5] }
  | _ => none }
def FnExactWhichSideWrongFalsely : Prop := fnExactWhichSideRow.holds Try.pinned (OpenSpec.ofChange fnExactWhichSideWrong)

/-- 'laws.FnExactAsksOf': WHATEVER THE INPUT: true; the input reads as it did. -/
def fnExactAsksOfSpec : ChangeSpec := { name := "fnExactAsksOf", fn := fun _ => fun
  | [d1, d2, d3] => { results := [.lit (.bool true)], args := [d1, d2, d3] }
  | _ => none }
def fnExactAsksOfRow : OpenClaim := { program := "ytlmmgjngihlpeaa", sum := "afbd545e7685c03f294572e8e07843281be222503dead2cd424a3702f1f9436c", func := "loop.example/g01242/laws.FnExactAsksOf", spec := "fnExactAsksOf", recurses := true, plainKeys := false, apart := false }
def FnExactAsksOfSaid : Prop := fnExactAsksOfRow.holds Try.pinned (OpenSpec.ofChange fnExactAsksOfSpec)

/-- ITS FALSE NEIGHBOUR: 'it returns false'. Refute it at one input. -/
def fnExactAsksOfWrong : ChangeSpec := { name := "fnExactAsksOf", fn := fun _ => fun
  | [d1, d2, d3] => { results := [.lit (.bool false)], args := [d1, d2, d3] }
  | _ => none }
def FnExactAsksOfWrongFalsely : Prop := fnExactAsksOfRow.holds Try.pinned (OpenSpec.ofChange fnExactAsksOfWrong)

/- THE SECOND FORM. 'bulk': how many values and letters a reading holds, each counted each time it is reached (what is shared counts as often as it is met; a slice's spare places count too). A statement '..UptoSaid' is the law's where the arguments, and the package variables that the reading takes, are together of bulk at most 1048576: NARROWER than '..Said'. Prove '..Said' where nothing that the law and all that it calls make is longer than what came in: it says more and counts as full. Else prove '..UptoSaid'. A law counts once. -/
mutual
def uptoBulk {H : Type} : DataW H → Nat
  | .lit (.string bytes) => bytes.length + 1
  | .lit _ => 1
  | .nil => 1
  | .ptr d => uptoBulk d + 1
  | .slice elems spare => uptoBulkAll elems + uptoBulkAll spare + 1
  | .agg parts => uptoBulkAll parts + 1
  | .iface _ d => uptoBulk d + 1
  | .map entries => uptoBulkEntries entries + 1
  | .held _ => 1
def uptoBulkAll {H : Type} : List (DataW H) → Nat
  | [] => 0
  | d :: r => uptoBulk d + uptoBulkAll r
def uptoBulkEntries {H : Type} : List (Lit × DataW H) → Nat
  | [] => 0
  | x :: r => uptoBulkEntry x + uptoBulkEntries r
def uptoBulkEntry {H : Type} : Lit × DataW H → Nat
  | (.string bytes, d) => bytes.length + uptoBulk d + 1
  | (_, d) => uptoBulk d + 1
 end
def uptoSmall : (H : Type) → List (DataW H) → Bool := fun _ ds => decide (uptoBulkAll ds ≤ 1048576)
def OpenSpec.upto (s : _root_.Go.ChangeSpec) : _root_.Go.OpenSpec := { _root_.Go.OpenSpec.ofChange s with cond := some uptoSmall }

/-- 'laws.FnDivided', WHERE WHAT IT READS IS OF BULK AT MOST 1048576: true; the input reads as it did. -/
def fnDividedUptoRow : OpenClaim := { program := "ytlmmgjngihlpeaa", sum := "afbd545e7685c03f294572e8e07843281be222503dead2cd424a3702f1f9436c", func := "loop.example/g01242/laws.FnDivided", spec := "fnDivided", plainKeys := false, apart := false, narrowed := true }
def FnDividedUptoSaid : Prop := fnDividedUptoRow.holds Try.pinned (OpenSpec.upto fnDividedSpec)

/-- 'laws.FnExactAwayFrom', WHERE WHAT IT READS IS OF BULK AT MOST 1048576: true; the input reads as it did. -/
def fnExactAwayFromUptoRow : OpenClaim := { program := "ytlmmgjngihlpeaa", sum := "afbd545e7685c03f294572e8e07843281be222503dead2cd424a3702f1f9436c", func := "loop.example/g01242/laws.FnExactAwayFrom", spec := "fnExactAwayFrom", recurses := true, plainKeys := false, apart := false, narrowed := true }
def FnExactAwayFromUptoSaid : Prop := fnExactAwayFromUptoRow.holds Try.pinned (OpenSpec.upto fnExactAwayFromSpec)

/-- 'laws.FnExactGrowthOf', WHERE WHAT IT READS IS OF BULK AT MOST 1048576: true; the input reads as it did. -/
def fnExactGrowthOfUptoRow : OpenClaim := { program := "ytlmmgjngihlpeaa", sum := "afbd545e7685c03f294572e8e07843281be222503dead2cd424a3702f1f9436c", func := "loop.example/g01242/laws.FnExactGrowthOf", spec := "fnExactGrowthOf", recurses := true, plainKeys := false, apart := false, narrowed := true }
def FnExactGrowthOfUptoSaid : Prop := fnExactGrowthOfUptoRow.holds Try.pinned (OpenSpec.upto fnExactGrowthOfSpec)

/-- 'laws.FnExactApprox', WHERE WHAT IT READS IS OF BULK AT MOST 1048576: true; the input reads as it did. -/
def fnExactApproxUptoRow : OpenClaim := { program := "ytlmmgjngihlpeaa", sum := "afbd545e7685c03f294572e8e07843281be222503dead2cd424a3702f1f9436c", func := "loop.example/g01242/laws.FnExactApprox", spec := "fnExactApprox", recurses := true, plainKeys := false, apart := false, narrowed := true }
def FnExactApproxUptoSaid : Prop := fnExactApproxUptoRow.holds Try.pinned (OpenSpec.upto fnExactApproxSpec)

/-- 'laws.FnExactSignWithin', WHERE WHAT IT READS IS OF BULK AT MOST 1048576: true; the input reads as it did. -/
def fnExactSignWithinUptoRow : OpenClaim := { program := "ytlmmgjngihlpeaa", sum := "afbd545e7685c03f294572e8e07843281be222503dead2cd424a3702f1f9436c", func := "loop.example/g01242/laws.FnExactSignWithin", spec := "fnExactSignWithin", recurses := true, plainKeys := false, apart := false, narrowed := true }
def FnExactSignWithinUptoSaid : Prop := fnExactSignWithinUptoRow.holds Try.pinned (OpenSpec.upto fnExactSignWithinSpec)

/-- 'laws.FnExactWhichSide', WHERE WHAT IT READS IS OF BULK AT MOST 1048576: true; the input reads as it did. -/
def fnExactWhichSideUptoRow : OpenClaim := { program := "ytlmmgjngihlpeaa", sum := "afbd545e7685c03f294572e8e07843281be222503dead2cd424a3702f1f9436c", func := "loop.example/g01242/laws.FnExactWhichSide", spec := "fnExactWhichSide", recurses := true, plainKeys := false, apart := false, narrowed := true }
def FnExactWhichSideUptoSaid : Prop := fnExactWhichSideUptoRow.holds Try.pinned (OpenSpec.upto fnExactWhichSideSpec)

/-- 'laws.FnExactAsksOf', WHERE WHAT IT READS IS OF BULK AT MOST 1048576: true; the input reads as it did. -/
def fnExactAsksOfUptoRow : OpenClaim := { program := "ytlmmgjngihlpeaa", sum := "afbd545e7685c03f294572e8e07843281be222503dead2cd424a3702f1f9436c", func := "loop.example/g01242/laws.FnExactAsksOf", spec := "fnExactAsksOf", recurses := true, plainKeys := false, apart := false, narrowed := true }
def FnExactAsksOfUptoSaid : Prop := fnExactAsksOfUptoRow.holds Try.pinned (OpenSpec.upto fnExactAsksOfSpec)

end Rows
end Go.Proofs.Ytlmmgjngihlpeaa
