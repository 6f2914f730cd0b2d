/-
  No cell of these rows narrows 'for every input' (looked for: loops, veiled, ifaces, maps, wideKeys, modest, calm, conditions, laid).
  DERIVED. THE GIVEN ROWS OF THIS SEAT. 14 by the template 'for every input the law returns true; each argument reads behind the call as it read before'; 0 by the template 'total and deterministic' (their statements: YtbpljilgekneoaaTotals.lean).
  GIVEN WITH THE SEED: the statements are not yours to turn. If you find one false, say at which input.
  Laid BY PROGRAM, IN A SANDBOX (cutbox-rows.mjs): the forced cells as the released guide's own fill.sh prints them over the translation dbd1eb245f84f938… (all of the seat's roots in one cut). By AI agents, Wed Nov 11 2026. No macro, syntax, notation, axiom, sorry.
-/
import Derived.Test.YtbpljilgekneoaaChecked
import GoSem.Claim
import GoSem.ClaimJoined
import GoSem.ClaimMapViews
import Derived.JoinedTies
import Derived.KernelRfl
namespace Go.Proofs.Ytbpljilgekneoaa
/- THE CELL 'sum', in the pinned program and in every row, IS THE sha256 OF THE DUMP (.gsa) THAT YtbpljilgekneoaaProg.lean LOADS. Nothing in Lean hashes anything: it is a label: what it is worth is what the hold of that sum in a sandbox is worth. -/
noncomputable def Try.pinned : Pinned := { name := "ytbpljilgekneoaa", sum := "dbd1eb245f84f9380a4e38fb4782b081f11c33a934b1f849b508ad80f2a765aa", checked := Try.checked }
namespace Rows
def none {H : Type} : Left H := { results := [], args := [] }

/-- 'laws.FnExactValidMoebius': WHATEVER THE INPUT: true; the input reads as it did. -/
def fnExactValidMoebiusSpec : ChangeSpec := { name := "fnExactValidMoebius", fn := fun _ => fun
  | [d] => { results := [.lit (.bool true)], args := [d] }
  | _ => none }
def fnExactValidMoebiusRow : OpenClaim := { program := "ytbpljilgekneoaa", sum := "dbd1eb245f84f9380a4e38fb4782b081f11c33a934b1f849b508ad80f2a765aa", func := "loop.example/g01242/laws.FnExactValidMoebius", spec := "fnExactValidMoebius", apart := false }
def FnExactValidMoebiusSaid : Prop := fnExactValidMoebiusRow.holds Try.pinned (OpenSpec.ofChange fnExactValidMoebiusSpec)

/-- ITS FALSE NEIGHBOUR: 'it returns false'. Refute it at one input. -/
def fnExactValidMoebiusWrong : ChangeSpec := { name := "fnExactValidMoebius", fn := fun _ => fun
  | [d] => { results := [.lit (.bool false)], args := [d] }
  | _ => none }
def FnExactValidMoebiusWrongFalsely : Prop := fnExactValidMoebiusRow.holds Try.pinned (OpenSpec.ofChange fnExactValidMoebiusWrong)

/-- 'laws.FnExactValidRatio': WHATEVER THE INPUT: true; the input reads as it did. -/
def fnExactValidRatioSpec : ChangeSpec := { name := "fnExactValidRatio", fn := fun _ => fun
  | [d] => { results := [.lit (.bool true)], args := [d] }
  | _ => none }
def fnExactValidRatioRow : OpenClaim := { program := "ytbpljilgekneoaa", sum := "dbd1eb245f84f9380a4e38fb4782b081f11c33a934b1f849b508ad80f2a765aa", func := "loop.example/g01242/laws.FnExactValidRatio", spec := "fnExactValidRatio", apart := false }
def FnExactValidRatioSaid : Prop := fnExactValidRatioRow.holds Try.pinned (OpenSpec.ofChange fnExactValidRatioSpec)

/-- ITS FALSE NEIGHBOUR: 'it returns false'. Refute it at one input. -/
def fnExactValidRatioWrong : ChangeSpec := { name := "fnExactValidRatio", fn := fun _ => fun
  | [d] => { results := [.lit (.bool false)], args := [d] }
  | _ => none }
def FnExactValidRatioWrongFalsely : Prop := fnExactValidRatioRow.holds Try.pinned (OpenSpec.ofChange fnExactValidRatioWrong)

/-- 'laws.FnExactCompareRatios': WHATEVER THE INPUT: true; the input reads as it did. -/
def fnExactCompareRatiosSpec : ChangeSpec := { name := "fnExactCompareRatios", fn := fun _ => fun
  | [d1, d2] => { results := [.lit (.bool true)], args := [d1, d2] }
  | _ => none }
def fnExactCompareRatiosRow : OpenClaim := { program := "ytbpljilgekneoaa", sum := "dbd1eb245f84f9380a4e38fb4782b081f11c33a934b1f849b508ad80f2a765aa", func := "loop.example/g01242/laws.FnExactCompareRatios", spec := "fnExactCompareRatios", apart := false }
def FnExactCompareRatiosSaid : Prop := fnExactCompareRatiosRow.holds Try.pinned (OpenSpec.ofChange fnExactCompareRatiosSpec)

/-- ITS FALSE NEIGHBOUR: 'it returns false'. Refute it at one input. -/
def fnExactCompareRatiosWrong : ChangeSpec := { name := "fnExactCompareRatios", fn := fun _ => fun
  | [d1, d2] => { results := [.lit (.bool false)], args := [d1, d2] }
  | _ => none }
def FnExactCompareRatiosWrongFalsely : Prop := fnExactCompareRatiosRow.holds Try.pinned (OpenSpec.ofChange fnExactCompareRatiosWrong)

/-- 'laws.FnExactMakeRatio': WHATEVER THE INPUT: true; the input reads as it did. -/
def fnExactMakeRatioSpec : ChangeSpec := { name := "fnExactMakeRatio", fn := fun _ => fun
  | [d1, d2] => { results := [.lit (.bool true)], args := [d1, d2] }
  | _ => none }
def fnExactMakeRatioRow : OpenClaim := { program := "ytbpljilgekneoaa", sum := "dbd1eb245f84f9380a4e38fb4782b081f11c33a934b1f849b508ad80f2a765aa", func := "loop.example/g01242/laws.FnExactMakeRatio", spec := "fnExactMakeRatio", apart := false }
def FnExactMakeRatioSaid : Prop := fnExactMakeRatioRow.holds Try.pinned (OpenSpec.ofChange fnExactMakeRatioSpec)

/-- ITS FALSE NEIGHBOUR: 'it returns false'. Refute it at one input. -/
def fnExactMakeRatioWrong : ChangeSpec := { name := "fnExactMakeRatio", fn := fun _ => fun
  | [d1, d2] => { results := [.lit (.bool false)], args := [d1, d2] }
  | _ => none }
def FnExactMakeRatioWrongFalsely : Prop := fnExactMakeRatioRow.holds Try.pinned (OpenSpec.ofChange fnExactMakeRatioWrong)

/-- 'laws.FnExactApplyMoebius': WHATEVER THE INPUT: true; the input reads as it did. -/
def fnExactApplyMoebiusSpec : ChangeSpec := { name := "fnExactApplyMoebius", fn := fun _ => fun
  | [d1, d2] => { results := [.lit (.bool true)], args := [d1, d2] }
  | _ => none }
def fnExactApplyMoebiusRow : OpenClaim := { program := "ytbpljilgekneoaa", sum := "dbd1eb245f84f9380a4e38fb4782b081f11c33a934b1f849b508ad80f2a765aa", func := "loop.example/g01242/laws.FnExactApplyMoebius", spec := "fnExactApplyMoebius", apart := false }
def FnExactApplyMoebiusSaid : Prop := fnExactApplyMoebiusRow.holds Try.pinned (OpenSpec.ofChange fnExactApplyMoebiusSpec)

/-- ITS FALSE NEIGHBOUR: 'it returns false'. Refute it at one input. -/
def fnExactApplyMoebiusWrong : ChangeSpec := { name := "fnExactApplyMoebius", fn := fun _ => fun
  | [d1, d2] => { results := [.lit (.bool false)], args := [d1, d2] }
  | _ => none }
def FnExactApplyMoebiusWrongFalsely : Prop := fnExactApplyMoebiusRow.holds Try.pinned (OpenSpec.ofChange fnExactApplyMoebiusWrong)

/-- 'laws.FnExactComposeMoebius': WHATEVER THE INPUT: true; the input reads as it did. -/
def fnExactComposeMoebiusSpec : ChangeSpec := { name := "fnExactComposeMoebius", fn := fun _ => fun
  | [d1, d2] => { results := [.lit (.bool true)], args := [d1, d2] }
  | _ => none }
def fnExactComposeMoebiusRow : OpenClaim := { program := "ytbpljilgekneoaa", sum := "dbd1eb245f84f9380a4e38fb4782b081f11c33a934b1f849b508ad80f2a765aa", func := "loop.example/g01242/laws.FnExactComposeMoebius", spec := "fnExactComposeMoebius", apart := false }
def FnExactComposeMoebiusSaid : Prop := fnExactComposeMoebiusRow.holds Try.pinned (OpenSpec.ofChange fnExactComposeMoebiusSpec)

/-- ITS FALSE NEIGHBOUR: 'it returns false'. Refute it at one input. -/
def fnExactComposeMoebiusWrong : ChangeSpec := { name := "fnExactComposeMoebius", fn := fun _ => fun
  | [d1, d2] => { results := [.lit (.bool false)], args := [d1, d2] }
  | _ => none }
def FnExactComposeMoebiusWrongFalsely : Prop := fnExactComposeMoebiusRow.holds Try.pinned (OpenSpec.ofChange fnExactComposeMoebiusWrong)

/-- 'laws.FnExactImageOf': WHATEVER THE INPUT: true; the input reads as it did. -/
def fnExactImageOfSpec : ChangeSpec := { name := "fnExactImageOf", fn := fun _ => fun
  | [d] => { results := [.lit (.bool true)], args := [d] }
  | _ => none }
def fnExactImageOfRow : OpenClaim := { program := "ytbpljilgekneoaa", sum := "dbd1eb245f84f9380a4e38fb4782b081f11c33a934b1f849b508ad80f2a765aa", func := "loop.example/g01242/laws.FnExactImageOf", spec := "fnExactImageOf", apart := false }
def FnExactImageOfSaid : Prop := fnExactImageOfRow.holds Try.pinned (OpenSpec.ofChange fnExactImageOfSpec)

/-- ITS FALSE NEIGHBOUR: 'it returns false'. Refute it at one input. -/
def fnExactImageOfWrong : ChangeSpec := { name := "fnExactImageOf", fn := fun _ => fun
  | [d] => { results := [.lit (.bool false)], args := [d] }
  | _ => none }
def FnExactImageOfWrongFalsely : Prop := fnExactImageOfRow.holds Try.pinned (OpenSpec.ofChange fnExactImageOfWrong)

/-- 'laws.FnExactSameStream': WHATEVER THE INPUT: true; the input reads as it did. -/
def fnExactSameStreamSpec : ChangeSpec := { name := "fnExactSameStream", fn := fun _ => fun
  | [d1, d2] => { results := [.lit (.bool true)], args := [d1, d2] }
  | _ => none }
def fnExactSameStreamRow : OpenClaim := { program := "ytbpljilgekneoaa", sum := "dbd1eb245f84f9380a4e38fb4782b081f11c33a934b1f849b508ad80f2a765aa", func := "loop.example/g01242/laws.FnExactSameStream", spec := "fnExactSameStream", apart := false }
def FnExactSameStreamSaid : Prop := fnExactSameStreamRow.holds Try.pinned (OpenSpec.ofChange fnExactSameStreamSpec)

/-- ITS FALSE NEIGHBOUR: 'it returns false'. Refute it at one input. -/
def fnExactSameStreamWrong : ChangeSpec := { name := "fnExactSameStream", fn := fun _ => fun
  | [d1, d2] => { results := [.lit (.bool false)], args := [d1, d2] }
  | _ => none }
def FnExactSameStreamWrongFalsely : Prop := fnExactSameStreamRow.holds Try.pinned (OpenSpec.ofChange fnExactSameStreamWrong)

/-- 'laws.FnExactValidStream': WHATEVER THE INPUT: true; the input reads as it did. -/
def fnExactValidStreamSpec : ChangeSpec := { name := "fnExactValidStream", fn := fun _ => fun
  | [d] => { results := [.lit (.bool true)], args := [d] }
  | _ => none }
def fnExactValidStreamRow : OpenClaim := { program := "ytbpljilgekneoaa", sum := "dbd1eb245f84f9380a4e38fb4782b081f11c33a934b1f849b508ad80f2a765aa", func := "loop.example/g01242/laws.FnExactValidStream", spec := "fnExactValidStream", unfollowed := true, recurses := true, apart := false }
def FnExactValidStreamSaid : Prop := fnExactValidStreamRow.holds Try.pinned (OpenSpec.ofChange fnExactValidStreamSpec)

/-- ITS FALSE NEIGHBOUR: 'it returns false'. Refute it at one input. -/
def fnExactValidStreamWrong : ChangeSpec := { name := "fnExactValidStream", fn := fun _ => fun
  | [d] => { results := [.lit (.bool false)], args := [d] }
  | _ => none }
def FnExactValidStreamWrongFalsely : Prop := fnExactValidStreamRow.holds Try.pinned (OpenSpec.ofChange fnExactValidStreamWrong)

/-- 'laws.FnExactStreamText': WHATEVER THE INPUT: true; the input reads as it did. -/
def fnExactStreamTextSpec : ChangeSpec := { name := "fnExactStreamText", fn := fun _ => fun
  | [d] => { results := [.lit (.bool true)], args := [d] }
  | _ => none }
def fnExactStreamTextRow : OpenClaim := { program := "ytbpljilgekneoaa", sum := "dbd1eb245f84f9380a4e38fb4782b081f11c33a934b1f849b508ad80f2a765aa", func := "loop.example/g01242/laws.FnExactStreamText", spec := "fnExactStreamText", unfollowed := true, recurses := true, apart := false }
def FnExactStreamTextSaid : Prop := fnExactStreamTextRow.holds Try.pinned (OpenSpec.ofChange fnExactStreamTextSpec)

/-- ITS FALSE NEIGHBOUR: 'it returns false'. Refute it at one input. -/
def fnExactStreamTextWrong : ChangeSpec := { name := "fnExactStreamText", fn := fun _ => fun
  | [d] => { results := [.lit (.bool false)], args := [d] }
  | _ => none }
def FnExactStreamTextWrongFalsely : Prop := fnExactStreamTextRow.holds Try.pinned (OpenSpec.ofChange fnExactStreamTextWrong)

/-- 'laws.FnExactDigitAt': WHATEVER THE INPUT: true; the input reads as it did. -/
def fnExactDigitAtSpec : ChangeSpec := { name := "fnExactDigitAt", fn := fun _ => fun
  | [d1, d2] => { results := [.lit (.bool true)], args := [d1, d2] }
  | _ => none }
def fnExactDigitAtRow : OpenClaim := { program := "ytbpljilgekneoaa", sum := "dbd1eb245f84f9380a4e38fb4782b081f11c33a934b1f849b508ad80f2a765aa", func := "loop.example/g01242/laws.FnExactDigitAt", spec := "fnExactDigitAt", unfollowed := true, recurses := true, apart := false }
def FnExactDigitAtSaid : Prop := fnExactDigitAtRow.holds Try.pinned (OpenSpec.ofChange fnExactDigitAtSpec)

/-- ITS FALSE NEIGHBOUR: 'it returns false'. Refute it at one input. -/
def fnExactDigitAtWrong : ChangeSpec := { name := "fnExactDigitAt", fn := fun _ => fun
  | [d1, d2] => { results := [.lit (.bool false)], args := [d1, d2] }
  | _ => none }
def FnExactDigitAtWrongFalsely : Prop := fnExactDigitAtRow.holds Try.pinned (OpenSpec.ofChange fnExactDigitAtWrong)

/-- 'laws.FnExactNegStream': WHATEVER THE INPUT: true; the input reads as it did. -/
def fnExactNegStreamSpec : ChangeSpec := { name := "fnExactNegStream", fn := fun _ => fun
  | [d] => { results := [.lit (.bool true)], args := [d] }
  | _ => none }
def fnExactNegStreamRow : OpenClaim := { program := "ytbpljilgekneoaa", sum := "dbd1eb245f84f9380a4e38fb4782b081f11c33a934b1f849b508ad80f2a765aa", func := "loop.example/g01242/laws.FnExactNegStream", spec := "fnExactNegStream", unfollowed := true, recurses := true, apart := false }
def FnExactNegStreamSaid : Prop := fnExactNegStreamRow.holds Try.pinned (OpenSpec.ofChange fnExactNegStreamSpec)

/-- ITS FALSE NEIGHBOUR: 'it returns false'. Refute it at one input. -/
def fnExactNegStreamWrong : ChangeSpec := { name := "fnExactNegStream", fn := fun _ => fun
  | [d] => { results := [.lit (.bool false)], args := [d] }
  | _ => none }
def FnExactNegStreamWrongFalsely : Prop := fnExactNegStreamRow.holds Try.pinned (OpenSpec.ofChange fnExactNegStreamWrong)

/-- 'laws.FnExactHalfStream': WHATEVER THE INPUT: true; the input reads as it did. -/
def fnExactHalfStreamSpec : ChangeSpec := { name := "fnExactHalfStream", fn := fun _ => fun
  | [d] => { results := [.lit (.bool true)], args := [d] }
  | _ => none }
def fnExactHalfStreamRow : OpenClaim := { program := "ytbpljilgekneoaa", sum := "dbd1eb245f84f9380a4e38fb4782b081f11c33a934b1f849b508ad80f2a765aa", func := "loop.example/g01242/laws.FnExactHalfStream", spec := "fnExactHalfStream", unfollowed := true, recurses := true, apart := false }
def FnExactHalfStreamSaid : Prop := fnExactHalfStreamRow.holds Try.pinned (OpenSpec.ofChange fnExactHalfStreamSpec)

/-- ITS FALSE NEIGHBOUR: 'it returns false'. Refute it at one input. -/
def fnExactHalfStreamWrong : ChangeSpec := { name := "fnExactHalfStream", fn := fun _ => fun
  | [d] => { results := [.lit (.bool false)], args := [d] }
  | _ => none }
def FnExactHalfStreamWrongFalsely : Prop := fnExactHalfStreamRow.holds Try.pinned (OpenSpec.ofChange fnExactHalfStreamWrong)

/-- 'laws.FnExactDigitsOf': WHATEVER THE INPUT: true; the input reads as it did. -/
def fnExactDigitsOfSpec : ChangeSpec := { name := "fnExactDigitsOf", fn := fun _ => fun
  | [d1, d2] => { results := [.lit (.bool true)], args := [d1, d2] }
  | _ => none }
def fnExactDigitsOfRow : OpenClaim := { program := "ytbpljilgekneoaa", sum := "dbd1eb245f84f9380a4e38fb4782b081f11c33a934b1f849b508ad80f2a765aa", func := "loop.example/g01242/laws.FnExactDigitsOf", spec := "fnExactDigitsOf", unfollowed := true, recurses := true, apart := false }
def FnExactDigitsOfSaid : Prop := fnExactDigitsOfRow.holds Try.pinned (OpenSpec.ofChange fnExactDigitsOfSpec)

/-- ITS FALSE NEIGHBOUR: 'it returns false'. Refute it at one input. -/
def fnExactDigitsOfWrong : ChangeSpec := { name := "fnExactDigitsOf", fn := fun _ => fun
  | [d1, d2] => { results := [.lit (.bool false)], args := [d1, d2] }
  | _ => none }
def FnExactDigitsOfWrongFalsely : Prop := fnExactDigitsOfRow.holds Try.pinned (OpenSpec.ofChange fnExactDigitsOfWrong)

/- THE SECOND FORM. 'bulk': how many values and letters a reading holds, each counted each time it is reached (what is shared counts as often as it is met; a slice's spare places count too). A statement '..UptoSaid' is the law's where the arguments, and the package variables that the reading takes, are together of bulk at most 1048576: NARROWER than '..Said'. Prove '..Said' where nothing that the law and all that it calls make is longer than what came in: it says more and counts as full. Else prove '..UptoSaid'. A law counts once. -/
mutual
def uptoBulk {H : Type} : DataW H → Nat
  | .lit (.string bytes) => bytes.length + 1
  | .lit _ => 1
  | .nil => 1
  | .ptr d => uptoBulk d + 1
  | .slice elems spare => uptoBulkAll elems + uptoBulkAll spare + 1
  | .agg parts => uptoBulkAll parts + 1
  | .iface _ d => uptoBulk d + 1
  | .map entries => uptoBulkEntries entries + 1
  | .held _ => 1
def uptoBulkAll {H : Type} : List (DataW H) → Nat
  | [] => 0
  | d :: r => uptoBulk d + uptoBulkAll r
def uptoBulkEntries {H : Type} : List (Lit × DataW H) → Nat
  | [] => 0
  | x :: r => uptoBulkEntry x + uptoBulkEntries r
def uptoBulkEntry {H : Type} : Lit × DataW H → Nat
  | (.string bytes, d) => bytes.length + uptoBulk d + 1
  | (_, d) => uptoBulk d + 1
 end
def uptoSmall : (H : Type) → List (DataW H) → Bool := fun _ ds => decide (uptoBulkAll ds ≤ 1048576)
def OpenSpec.upto (s : _root_.Go.ChangeSpec) : _root_.Go.OpenSpec := { _root_.Go.OpenSpec.ofChange s with cond := some uptoSmall }

/-- 'laws.FnExactValidMoebius', WHERE WHAT IT READS IS OF BULK AT MOST 1048576: true; the input reads as it did. -/
def fnExactValidMoebiusUptoRow : OpenClaim := { program := "ytbpljilgekneoaa", sum := "dbd1eb245f84f9380a4e38fb4782b081f11c33a934b1f849b508ad80f2a765aa", func := "loop.example/g01242/laws.FnExactValidMoebius", spec := "fnExactValidMoebius", apart := false, narrowed := true }
def FnExactValidMoebiusUptoSaid : Prop := fnExactValidMoebiusUptoRow.holds Try.pinned (OpenSpec.upto fnExactValidMoebiusSpec)

/-- 'laws.FnExactValidRatio', WHERE WHAT IT READS IS OF BULK AT MOST 1048576: true; the input reads as it did. -/
def fnExactValidRatioUptoRow : OpenClaim := { program := "ytbpljilgekneoaa", sum := "dbd1eb245f84f9380a4e38fb4782b081f11c33a934b1f849b508ad80f2a765aa", func := "loop.example/g01242/laws.FnExactValidRatio", spec := "fnExactValidRatio", apart := false, narrowed := true }
def FnExactValidRatioUptoSaid : Prop := fnExactValidRatioUptoRow.holds Try.pinned (OpenSpec.upto fnExactValidRatioSpec)

/-- 'laws.FnExactCompareRatios', WHERE WHAT IT READS IS OF BULK AT MOST 1048576: true; the input reads as it did. -/
def fnExactCompareRatiosUptoRow : OpenClaim := { program := "ytbpljilgekneoaa", sum := "dbd1eb245f84f9380a4e38fb4782b081f11c33a934b1f849b508ad80f2a765aa", func := "loop.example/g01242/laws.FnExactCompareRatios", spec := "fnExactCompareRatios", apart := false, narrowed := true }
def FnExactCompareRatiosUptoSaid : Prop := fnExactCompareRatiosUptoRow.holds Try.pinned (OpenSpec.upto fnExactCompareRatiosSpec)

/-- 'laws.FnExactMakeRatio', WHERE WHAT IT READS IS OF BULK AT MOST 1048576: true; the input reads as it did. -/
def fnExactMakeRatioUptoRow : OpenClaim := { program := "ytbpljilgekneoaa", sum := "dbd1eb245f84f9380a4e38fb4782b081f11c33a934b1f849b508ad80f2a765aa", func := "loop.example/g01242/laws.FnExactMakeRatio", spec := "fnExactMakeRatio", apart := false, narrowed := true }
def FnExactMakeRatioUptoSaid : Prop := fnExactMakeRatioUptoRow.holds Try.pinned (OpenSpec.upto fnExactMakeRatioSpec)

/-- 'laws.FnExactApplyMoebius', WHERE WHAT IT READS IS OF BULK AT MOST 1048576: true; the input reads as it did. -/
def fnExactApplyMoebiusUptoRow : OpenClaim := { program := "ytbpljilgekneoaa", sum := "dbd1eb245f84f9380a4e38fb4782b081f11c33a934b1f849b508ad80f2a765aa", func := "loop.example/g01242/laws.FnExactApplyMoebius", spec := "fnExactApplyMoebius", apart := false, narrowed := true }
def FnExactApplyMoebiusUptoSaid : Prop := fnExactApplyMoebiusUptoRow.holds Try.pinned (OpenSpec.upto fnExactApplyMoebiusSpec)

/-- 'laws.FnExactComposeMoebius', WHERE WHAT IT READS IS OF BULK AT MOST 1048576: true; the input reads as it did. -/
def fnExactComposeMoebiusUptoRow : OpenClaim := { program := "ytbpljilgekneoaa", sum := "dbd1eb245f84f9380a4e38fb4782b081f11c33a934b1f849b508ad80f2a765aa", func := "loop.example/g01242/laws.FnExactComposeMoebius", spec := "fnExactComposeMoebius", apart := false, narrowed := true }
def FnExactComposeMoebiusUptoSaid : Prop := fnExactComposeMoebiusUptoRow.holds Try.pinned (OpenSpec.upto fnExactComposeMoebiusSpec)

/-- 'laws.FnExactImageOf', WHERE WHAT IT READS IS OF BULK AT MOST 1048576: true; the input reads as it did. -/
def fnExactImageOfUptoRow : OpenClaim := { program := "ytbpljilgekneoaa", sum := "dbd1eb245f84f9380a4e38fb4782b081f11c33a934b1f849b508ad80f2a765aa", func := "loop.example/g01242/laws.FnExactImageOf", spec := "fnExactImageOf", apart := false, narrowed := true }
def FnExactImageOfUptoSaid : Prop := fnExactImageOfUptoRow.holds Try.pinned (OpenSpec.upto fnExactImageOfSpec)

/-- 'laws.FnExactSameStream', WHERE WHAT IT READS IS OF BULK AT MOST 1048576: true; the input reads as it did. -/
def fnExactSameStreamUptoRow : OpenClaim := { program := "ytbpljilgekneoaa", sum := "dbd1eb245f84f9380a4e38fb4782b081f11c33a934b1f849b508ad80f2a765aa", func := "loop.example/g01242/laws.FnExactSameStream", spec := "fnExactSameStream", apart := false, narrowed := true }
def FnExactSameStreamUptoSaid : Prop := fnExactSameStreamUptoRow.holds Try.pinned (OpenSpec.upto fnExactSameStreamSpec)

/-- 'laws.FnExactValidStream', WHERE WHAT IT READS IS OF BULK AT MOST 1048576: true; the input reads as it did. -/
def fnExactValidStreamUptoRow : OpenClaim := { program := "ytbpljilgekneoaa", sum := "dbd1eb245f84f9380a4e38fb4782b081f11c33a934b1f849b508ad80f2a765aa", func := "loop.example/g01242/laws.FnExactValidStream", spec := "fnExactValidStream", unfollowed := true, recurses := true, apart := false, narrowed := true }
def FnExactValidStreamUptoSaid : Prop := fnExactValidStreamUptoRow.holds Try.pinned (OpenSpec.upto fnExactValidStreamSpec)

/-- 'laws.FnExactStreamText', WHERE WHAT IT READS IS OF BULK AT MOST 1048576: true; the input reads as it did. -/
def fnExactStreamTextUptoRow : OpenClaim := { program := "ytbpljilgekneoaa", sum := "dbd1eb245f84f9380a4e38fb4782b081f11c33a934b1f849b508ad80f2a765aa", func := "loop.example/g01242/laws.FnExactStreamText", spec := "fnExactStreamText", unfollowed := true, recurses := true, apart := false, narrowed := true }
def FnExactStreamTextUptoSaid : Prop := fnExactStreamTextUptoRow.holds Try.pinned (OpenSpec.upto fnExactStreamTextSpec)

/-- 'laws.FnExactDigitAt', WHERE WHAT IT READS IS OF BULK AT MOST 1048576: true; the input reads as it did. -/
def fnExactDigitAtUptoRow : OpenClaim := { program := "ytbpljilgekneoaa", sum := "dbd1eb245f84f9380a4e38fb4782b081f11c33a934b1f849b508ad80f2a765aa", func := "loop.example/g01242/laws.FnExactDigitAt", spec := "fnExactDigitAt", unfollowed := true, recurses := true, apart := false, narrowed := true }
def FnExactDigitAtUptoSaid : Prop := fnExactDigitAtUptoRow.holds Try.pinned (OpenSpec.upto fnExactDigitAtSpec)

/-- 'laws.FnExactNegStream', WHERE WHAT IT READS IS OF BULK AT MOST 1048576: true; the input reads as it did. -/
def fnExactNegStreamUptoRow : OpenClaim := { program := "ytbpljilgekneoaa", sum := "dbd1eb245f84f9380a4e38fb4782b081f11c33a934b1f849b508ad80f2a765aa", func := "loop.example/g01242/laws.FnExactNegStream", spec := "fnExactNegStream", unfollowed := true, recurses := true, apart := false, narrowed := true }
def FnExactNegStreamUptoSaid : Prop := fnExactNegStreamUptoRow.holds Try.pinned (OpenSpec.upto fnExactNegStreamSpec)

/-- 'laws.FnExactHalfStream', WHERE WHAT IT READS IS OF BULK AT MOST 1048576: true; the input reads as it did. -/
def fnExactHalfStreamUptoRow : OpenClaim := { program := "ytbpljilgekneoaa", sum := "dbd1eb245f84f9380a4e38fb4782b081f11c33a934b1f849b508ad80f2a765aa", func := "loop.example/g01242/laws.FnExactHalfStream", spec := "fnExactHalfStream", unfollowed := true, recurses := true, apart := false, narrowed := true }
def FnExactHalfStreamUptoSaid : Prop := fnExactHalfStreamUptoRow.holds Try.pinned (OpenSpec.upto fnExactHalfStreamSpec)

/-- 'laws.FnExactDigitsOf', WHERE WHAT IT READS IS OF BULK AT MOST 1048576: true; the input reads as it did. -/
def fnExactDigitsOfUptoRow : OpenClaim := { program := "ytbpljilgekneoaa", sum := "dbd1eb245f84f9380a4e38fb4782b081f11c33a934b1f849b508ad80f2a765aa", func := "loop.example/g01242/laws.FnExactDigitsOf", spec := "fnExactDigitsOf", unfollowed := true, recurses := true, apart := false, narrowed := true }
def FnExactDigitsOfUptoSaid : Prop := fnExactDigitsOfUptoRow.holds Try.pinned (OpenSpec.upto fnExactDigitsOfSpec)

end Rows
end Go.Proofs.Ytbpljilgekneoaa
