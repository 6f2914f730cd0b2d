/-
  No cell of these rows narrows 'for every input' (looked for: loops, veiled, ifaces, maps, wideKeys, modest, calm, conditions, laid).
  DERIVED. THE GIVEN ROWS OF THIS SEAT. 19 by the template 'for every input the law returns true; each argument reads behind the call as it read before'; 0 by the template 'total and deterministic' (their statements: YtcccndkeaichcaaTotals.lean).
  GIVEN WITH THE SEED: the statements are not yours to turn. If you find one false, say at which input.
  Laid BY PROGRAM, IN A SANDBOX (cutbox-rows.mjs): the forced cells as the released guide's own fill.sh prints them over the translation feac5b861ae70ae4… (all of the seat's roots in one cut). By AI agents, Wed Nov 11 2026. No macro, syntax, notation, axiom, sorry.
-/
import Derived.Test.YtcccndkeaichcaaChecked
import GoSem.Claim
import GoSem.ClaimJoined
import GoSem.ClaimMapViews
import Derived.JoinedTies
import Derived.KernelRfl
namespace Go.Proofs.Ytcccndkeaichcaa
/- THE CELL 'sum', in the pinned program and in every row, IS THE sha256 OF THE DUMP (.gsa) THAT YtcccndkeaichcaaProg.lean LOADS. Nothing in Lean hashes anything: it is a label: what it is worth is what the hold of that sum in a sandbox is worth. -/
noncomputable def Try.pinned : Pinned := { name := "ytcccndkeaichcaa", sum := "feac5b861ae70ae4e168e11fdcee23f3e4c59f83644b2e187fd147006a04a0a6", checked := Try.checked }
namespace Rows
def none {H : Type} : Left H := { results := [], args := [] }

/-- 'laws.FnExactValidWide': WHATEVER THE INPUT: true; the input reads as it did. -/
def fnExactValidWideSpec : ChangeSpec := { name := "fnExactValidWide", fn := fun _ => fun
  | [d] => { results := [.lit (.bool true)], args := [d] }
  | _ => none }
def fnExactValidWideRow : OpenClaim := { program := "ytcccndkeaichcaa", sum := "feac5b861ae70ae4e168e11fdcee23f3e4c59f83644b2e187fd147006a04a0a6", func := "loop.example/g01242/laws.FnExactValidWide", spec := "fnExactValidWide", apart := false }
def FnExactValidWideSaid : Prop := fnExactValidWideRow.holds Try.pinned (OpenSpec.ofChange fnExactValidWideSpec)

/-- ITS FALSE NEIGHBOUR: 'it returns false'. Refute it at one input. -/
def fnExactValidWideWrong : ChangeSpec := { name := "fnExactValidWide", fn := fun _ => fun
  | [d] => { results := [.lit (.bool false)], args := [d] }
  | _ => none }
def FnExactValidWideWrongFalsely : Prop := fnExactValidWideRow.holds Try.pinned (OpenSpec.ofChange fnExactValidWideWrong)

/-- 'laws.FnExactWideOf': WHATEVER THE INPUT: true; the input reads as it did. -/
def fnExactWideOfSpec : ChangeSpec := { name := "fnExactWideOf", fn := fun _ => fun
  | [d] => { results := [.lit (.bool true)], args := [d] }
  | _ => none }
def fnExactWideOfRow : OpenClaim := { program := "ytcccndkeaichcaa", sum := "feac5b861ae70ae4e168e11fdcee23f3e4c59f83644b2e187fd147006a04a0a6", func := "loop.example/g01242/laws.FnExactWideOf", spec := "fnExactWideOf", apart := false }
def FnExactWideOfSaid : Prop := fnExactWideOfRow.holds Try.pinned (OpenSpec.ofChange fnExactWideOfSpec)

/-- ITS FALSE NEIGHBOUR: 'it returns false'. Refute it at one input. -/
def fnExactWideOfWrong : ChangeSpec := { name := "fnExactWideOf", fn := fun _ => fun
  | [d] => { results := [.lit (.bool false)], args := [d] }
  | _ => none }
def FnExactWideOfWrongFalsely : Prop := fnExactWideOfRow.holds Try.pinned (OpenSpec.ofChange fnExactWideOfWrong)

/-- 'laws.FnDivided': WHATEVER THE INPUT: true; the input reads as it did. -/
def fnDividedSpec : ChangeSpec := { name := "fnDivided", fn := fun _ => fun
  | [d1, d2] => { results := [.lit (.bool true)], args := [d1, d2] }
  | _ => none }
def fnDividedRow : OpenClaim := { program := "ytcccndkeaichcaa", sum := "feac5b861ae70ae4e168e11fdcee23f3e4c59f83644b2e187fd147006a04a0a6", func := "loop.example/g01242/laws.FnDivided", spec := "fnDivided", apart := false }
def FnDividedSaid : Prop := fnDividedRow.holds Try.pinned (OpenSpec.ofChange fnDividedSpec)

/-- ITS FALSE NEIGHBOUR: 'it returns false'. Refute it at one input. -/
def fnDividedWrong : ChangeSpec := { name := "fnDivided", fn := fun _ => fun
  | [d1, d2] => { results := [.lit (.bool false)], args := [d1, d2] }
  | _ => none }
def FnDividedWrongFalsely : Prop := fnDividedRow.holds Try.pinned (OpenSpec.ofChange fnDividedWrong)

/-- 'laws.FnExactSignOf': WHATEVER THE INPUT: true; the input reads as it did. -/
def fnExactSignOfSpec : ChangeSpec := { name := "fnExactSignOf", fn := fun _ => fun
  | [d] => { results := [.lit (.bool true)], args := [d] }
  | _ => none }
def fnExactSignOfRow : OpenClaim := { program := "ytcccndkeaichcaa", sum := "feac5b861ae70ae4e168e11fdcee23f3e4c59f83644b2e187fd147006a04a0a6", func := "loop.example/g01242/laws.FnExactSignOf", spec := "fnExactSignOf", apart := false }
def FnExactSignOfSaid : Prop := fnExactSignOfRow.holds Try.pinned (OpenSpec.ofChange fnExactSignOfSpec)

/-- ITS FALSE NEIGHBOUR: 'it returns false'. Refute it at one input. -/
def fnExactSignOfWrong : ChangeSpec := { name := "fnExactSignOf", fn := fun _ => fun
  | [d] => { results := [.lit (.bool false)], args := [d] }
  | _ => none }
def FnExactSignOfWrongFalsely : Prop := fnExactSignOfRow.holds Try.pinned (OpenSpec.ofChange fnExactSignOfWrong)

/-- 'laws.FnExactNegWide': WHATEVER THE INPUT: true; the input reads as it did. -/
def fnExactNegWideSpec : ChangeSpec := { name := "fnExactNegWide", fn := fun _ => fun
  | [d] => { results := [.lit (.bool true)], args := [d] }
  | _ => none }
def fnExactNegWideRow : OpenClaim := { program := "ytcccndkeaichcaa", sum := "feac5b861ae70ae4e168e11fdcee23f3e4c59f83644b2e187fd147006a04a0a6", func := "loop.example/g01242/laws.FnExactNegWide", spec := "fnExactNegWide", apart := false }
def FnExactNegWideSaid : Prop := fnExactNegWideRow.holds Try.pinned (OpenSpec.ofChange fnExactNegWideSpec)

/-- ITS FALSE NEIGHBOUR: 'it returns false'. Refute it at one input. -/
def fnExactNegWideWrong : ChangeSpec := { name := "fnExactNegWide", fn := fun _ => fun
  | [d] => { results := [.lit (.bool false)], args := [d] }
  | _ => none }
def FnExactNegWideWrongFalsely : Prop := fnExactNegWideRow.holds Try.pinned (OpenSpec.ofChange fnExactNegWideWrong)

/-- 'laws.FnExactSizeOf': WHATEVER THE INPUT: true; the input reads as it did. -/
def fnExactSizeOfSpec : ChangeSpec := { name := "fnExactSizeOf", fn := fun _ => fun
  | [d] => { results := [.lit (.bool true)], args := [d] }
  | _ => none }
def fnExactSizeOfRow : OpenClaim := { program := "ytcccndkeaichcaa", sum := "feac5b861ae70ae4e168e11fdcee23f3e4c59f83644b2e187fd147006a04a0a6", func := "loop.example/g01242/laws.FnExactSizeOf", spec := "fnExactSizeOf", apart := false }
def FnExactSizeOfSaid : Prop := fnExactSizeOfRow.holds Try.pinned (OpenSpec.ofChange fnExactSizeOfSpec)

/-- ITS FALSE NEIGHBOUR: 'it returns false'. Refute it at one input. -/
def fnExactSizeOfWrong : ChangeSpec := { name := "fnExactSizeOf", fn := fun _ => fun
  | [d] => { results := [.lit (.bool false)], args := [d] }
  | _ => none }
def FnExactSizeOfWrongFalsely : Prop := fnExactSizeOfRow.holds Try.pinned (OpenSpec.ofChange fnExactSizeOfWrong)

/-- 'laws.FnExactCompareWides': WHATEVER THE INPUT: true; the input reads as it did. -/
def fnExactCompareWidesSpec : ChangeSpec := { name := "fnExactCompareWides", fn := fun _ => fun
  | [d1, d2] => { results := [.lit (.bool true)], args := [d1, d2] }
  | _ => none }
def fnExactCompareWidesRow : OpenClaim := { program := "ytcccndkeaichcaa", sum := "feac5b861ae70ae4e168e11fdcee23f3e4c59f83644b2e187fd147006a04a0a6", func := "loop.example/g01242/laws.FnExactCompareWides", spec := "fnExactCompareWides", apart := false }
def FnExactCompareWidesSaid : Prop := fnExactCompareWidesRow.holds Try.pinned (OpenSpec.ofChange fnExactCompareWidesSpec)

/-- ITS FALSE NEIGHBOUR: 'it returns false'. Refute it at one input. -/
def fnExactCompareWidesWrong : ChangeSpec := { name := "fnExactCompareWides", fn := fun _ => fun
  | [d1, d2] => { results := [.lit (.bool false)], args := [d1, d2] }
  | _ => none }
def FnExactCompareWidesWrongFalsely : Prop := fnExactCompareWidesRow.holds Try.pinned (OpenSpec.ofChange fnExactCompareWidesWrong)

/-- 'laws.FnExactNarrowOf': WHATEVER THE INPUT: true; the input reads as it did. -/
def fnExactNarrowOfSpec : ChangeSpec := { name := "fnExactNarrowOf", fn := fun _ => fun
  | [d] => { results := [.lit (.bool true)], args := [d] }
  | _ => none }
def fnExactNarrowOfRow : OpenClaim := { program := "ytcccndkeaichcaa", sum := "feac5b861ae70ae4e168e11fdcee23f3e4c59f83644b2e187fd147006a04a0a6", func := "loop.example/g01242/laws.FnExactNarrowOf", spec := "fnExactNarrowOf", apart := false }
def FnExactNarrowOfSaid : Prop := fnExactNarrowOfRow.holds Try.pinned (OpenSpec.ofChange fnExactNarrowOfSpec)

/-- ITS FALSE NEIGHBOUR: 'it returns false'. Refute it at one input. -/
def fnExactNarrowOfWrong : ChangeSpec := { name := "fnExactNarrowOf", fn := fun _ => fun
  | [d] => { results := [.lit (.bool false)], args := [d] }
  | _ => none }
def FnExactNarrowOfWrongFalsely : Prop := fnExactNarrowOfRow.holds Try.pinned (OpenSpec.ofChange fnExactNarrowOfWrong)

/-- 'laws.FnExactMulWides': WHATEVER THE INPUT: true; the input reads as it did. -/
def fnExactMulWidesSpec : ChangeSpec := { name := "fnExactMulWides", fn := fun _ => fun
  | [d1, d2] => { results := [.lit (.bool true)], args := [d1, d2] }
  | _ => none }
def fnExactMulWidesRow : OpenClaim := { program := "ytcccndkeaichcaa", sum := "feac5b861ae70ae4e168e11fdcee23f3e4c59f83644b2e187fd147006a04a0a6", func := "loop.example/g01242/laws.FnExactMulWides", spec := "fnExactMulWides", apart := false }
def FnExactMulWidesSaid : Prop := fnExactMulWidesRow.holds Try.pinned (OpenSpec.ofChange fnExactMulWidesSpec)

/-- ITS FALSE NEIGHBOUR: 'it returns false'. Refute it at one input. -/
def fnExactMulWidesWrong : ChangeSpec := { name := "fnExactMulWides", fn := fun _ => fun
  | [d1, d2] => { results := [.lit (.bool false)], args := [d1, d2] }
  | _ => none }
def FnExactMulWidesWrongFalsely : Prop := fnExactMulWidesRow.holds Try.pinned (OpenSpec.ofChange fnExactMulWidesWrong)

/-- 'laws.FnExactPowerWide': WHATEVER THE INPUT: true; the input reads as it did. -/
def fnExactPowerWideSpec : ChangeSpec := { name := "fnExactPowerWide", fn := fun _ => fun
  | [d1, d2] => { results := [.lit (.bool true)], args := [d1, d2] }
  | _ => none }
def fnExactPowerWideRow : OpenClaim := { program := "ytcccndkeaichcaa", sum := "feac5b861ae70ae4e168e11fdcee23f3e4c59f83644b2e187fd147006a04a0a6", func := "loop.example/g01242/laws.FnExactPowerWide", spec := "fnExactPowerWide", apart := false }
def FnExactPowerWideSaid : Prop := fnExactPowerWideRow.holds Try.pinned (OpenSpec.ofChange fnExactPowerWideSpec)

/-- ITS FALSE NEIGHBOUR: 'it returns false'. Refute it at one input. -/
def fnExactPowerWideWrong : ChangeSpec := { name := "fnExactPowerWide", fn := fun _ => fun
  | [d1, d2] => { results := [.lit (.bool false)], args := [d1, d2] }
  | _ => none }
def FnExactPowerWideWrongFalsely : Prop := fnExactPowerWideRow.holds Try.pinned (OpenSpec.ofChange fnExactPowerWideWrong)

/-- 'laws.FnExactShiftUp': WHATEVER THE INPUT: true; the input reads as it did. -/
def fnExactShiftUpSpec : ChangeSpec := { name := "fnExactShiftUp", fn := fun _ => fun
  | [d1, d2] => { results := [.lit (.bool true)], args := [d1, d2] }
  | _ => none }
def fnExactShiftUpRow : OpenClaim := { program := "ytcccndkeaichcaa", sum := "feac5b861ae70ae4e168e11fdcee23f3e4c59f83644b2e187fd147006a04a0a6", func := "loop.example/g01242/laws.FnExactShiftUp", spec := "fnExactShiftUp", apart := false }
def FnExactShiftUpSaid : Prop := fnExactShiftUpRow.holds Try.pinned (OpenSpec.ofChange fnExactShiftUpSpec)

/-- ITS FALSE NEIGHBOUR: 'it returns false'. Refute it at one input. -/
def fnExactShiftUpWrong : ChangeSpec := { name := "fnExactShiftUp", fn := fun _ => fun
  | [d1, d2] => { results := [.lit (.bool false)], args := [d1, d2] }
  | _ => none }
def FnExactShiftUpWrongFalsely : Prop := fnExactShiftUpRow.holds Try.pinned (OpenSpec.ofChange fnExactShiftUpWrong)

/-- 'laws.FnExactAddWides': WHATEVER THE INPUT: true; the input reads as it did. -/
def fnExactAddWidesSpec : ChangeSpec := { name := "fnExactAddWides", fn := fun _ => fun
  | [d1, d2] => { results := [.lit (.bool true)], args := [d1, d2] }
  | _ => none }
def fnExactAddWidesRow : OpenClaim := { program := "ytcccndkeaichcaa", sum := "feac5b861ae70ae4e168e11fdcee23f3e4c59f83644b2e187fd147006a04a0a6", func := "loop.example/g01242/laws.FnExactAddWides", spec := "fnExactAddWides", apart := false }
def FnExactAddWidesSaid : Prop := fnExactAddWidesRow.holds Try.pinned (OpenSpec.ofChange fnExactAddWidesSpec)

/-- ITS FALSE NEIGHBOUR: 'it returns false'. Refute it at one input. -/
def fnExactAddWidesWrong : ChangeSpec := { name := "fnExactAddWides", fn := fun _ => fun
  | [d1, d2] => { results := [.lit (.bool false)], args := [d1, d2] }
  | _ => none }
def FnExactAddWidesWrongFalsely : Prop := fnExactAddWidesRow.holds Try.pinned (OpenSpec.ofChange fnExactAddWidesWrong)

/-- 'laws.FnExactSubWides': WHATEVER THE INPUT: true; the input reads as it did. -/
def fnExactSubWidesSpec : ChangeSpec := { name := "fnExactSubWides", fn := fun _ => fun
  | [d1, d2] => { results := [.lit (.bool true)], args := [d1, d2] }
  | _ => none }
def fnExactSubWidesRow : OpenClaim := { program := "ytcccndkeaichcaa", sum := "feac5b861ae70ae4e168e11fdcee23f3e4c59f83644b2e187fd147006a04a0a6", func := "loop.example/g01242/laws.FnExactSubWides", spec := "fnExactSubWides", apart := false }
def FnExactSubWidesSaid : Prop := fnExactSubWidesRow.holds Try.pinned (OpenSpec.ofChange fnExactSubWidesSpec)

/-- ITS FALSE NEIGHBOUR: 'it returns false'. Refute it at one input. -/
def fnExactSubWidesWrong : ChangeSpec := { name := "fnExactSubWides", fn := fun _ => fun
  | [d1, d2] => { results := [.lit (.bool false)], args := [d1, d2] }
  | _ => none }
def FnExactSubWidesWrongFalsely : Prop := fnExactSubWidesRow.holds Try.pinned (OpenSpec.ofChange fnExactSubWidesWrong)

/-- 'laws.FnExactShiftNear': WHATEVER THE INPUT: true; the input reads as it did. -/
def fnExactShiftNearSpec : ChangeSpec := { name := "fnExactShiftNear", fn := fun _ => fun
  | [d1, d2] => { results := [.lit (.bool true)], args := [d1, d2] }
  | _ => none }
def fnExactShiftNearRow : OpenClaim := { program := "ytcccndkeaichcaa", sum := "feac5b861ae70ae4e168e11fdcee23f3e4c59f83644b2e187fd147006a04a0a6", func := "loop.example/g01242/laws.FnExactShiftNear", spec := "fnExactShiftNear", apart := false }
def FnExactShiftNearSaid : Prop := fnExactShiftNearRow.holds Try.pinned (OpenSpec.ofChange fnExactShiftNearSpec)

/-- ITS FALSE NEIGHBOUR: 'it returns false'. Refute it at one input. -/
def fnExactShiftNearWrong : ChangeSpec := { name := "fnExactShiftNear", fn := fun _ => fun
  | [d1, d2] => { results := [.lit (.bool false)], args := [d1, d2] }
  | _ => none }
def FnExactShiftNearWrongFalsely : Prop := fnExactShiftNearRow.holds Try.pinned (OpenSpec.ofChange fnExactShiftNearWrong)

/-- 'laws.FnExactCommonWide': WHATEVER THE INPUT: true; the input reads as it did. -/
def fnExactCommonWideSpec : ChangeSpec := { name := "fnExactCommonWide", fn := fun _ => fun
  | [d1, d2] => { results := [.lit (.bool true)], args := [d1, d2] }
  | _ => none }
def fnExactCommonWideRow : OpenClaim := { program := "ytcccndkeaichcaa", sum := "feac5b861ae70ae4e168e11fdcee23f3e4c59f83644b2e187fd147006a04a0a6", func := "loop.example/g01242/laws.FnExactCommonWide", spec := "fnExactCommonWide", apart := false }
def FnExactCommonWideSaid : Prop := fnExactCommonWideRow.holds Try.pinned (OpenSpec.ofChange fnExactCommonWideSpec)

/-- ITS FALSE NEIGHBOUR: 'it returns false'. Refute it at one input. -/
def fnExactCommonWideWrong : ChangeSpec := { name := "fnExactCommonWide", fn := fun _ => fun
  | [d1, d2] => { results := [.lit (.bool false)], args := [d1, d2] }
  | _ => none }
def FnExactCommonWideWrongFalsely : Prop := fnExactCommonWideRow.holds Try.pinned (OpenSpec.ofChange fnExactCommonWideWrong)

/-- 'laws.FnExactReadWide': WHATEVER THE INPUT: true; the input reads as it did. -/
def fnExactReadWideSpec : ChangeSpec := { name := "fnExactReadWide", fn := fun _ => fun
  | [d] => { results := [.lit (.bool true)], args := [d] }
  | _ => none }
def fnExactReadWideRow : OpenClaim := { program := "ytcccndkeaichcaa", sum := "feac5b861ae70ae4e168e11fdcee23f3e4c59f83644b2e187fd147006a04a0a6", func := "loop.example/g01242/laws.FnExactReadWide", spec := "fnExactReadWide", apart := false }
def FnExactReadWideSaid : Prop := fnExactReadWideRow.holds Try.pinned (OpenSpec.ofChange fnExactReadWideSpec)

/-- ITS FALSE NEIGHBOUR: 'it returns false'. Refute it at one input. -/
def fnExactReadWideWrong : ChangeSpec := { name := "fnExactReadWide", fn := fun _ => fun
  | [d] => { results := [.lit (.bool false)], args := [d] }
  | _ => none }
def FnExactReadWideWrongFalsely : Prop := fnExactReadWideRow.holds Try.pinned (OpenSpec.ofChange fnExactReadWideWrong)

/-- 'laws.FnExactRootWide': WHATEVER THE INPUT: true; the input reads as it did. -/
def fnExactRootWideSpec : ChangeSpec := { name := "fnExactRootWide", fn := fun _ => fun
  | [d] => { results := [.lit (.bool true)], args := [d] }
  | _ => none }
def fnExactRootWideRow : OpenClaim := { program := "ytcccndkeaichcaa", sum := "feac5b861ae70ae4e168e11fdcee23f3e4c59f83644b2e187fd147006a04a0a6", func := "loop.example/g01242/laws.FnExactRootWide", spec := "fnExactRootWide", apart := false }
def FnExactRootWideSaid : Prop := fnExactRootWideRow.holds Try.pinned (OpenSpec.ofChange fnExactRootWideSpec)

/-- ITS FALSE NEIGHBOUR: 'it returns false'. Refute it at one input. -/
def fnExactRootWideWrong : ChangeSpec := { name := "fnExactRootWide", fn := fun _ => fun
  | [d] => { results := [.lit (.bool false)], args := [d] }
  | _ => none }
def FnExactRootWideWrongFalsely : Prop := fnExactRootWideRow.holds Try.pinned (OpenSpec.ofChange fnExactRootWideWrong)

/-- 'laws.FnExactDivWides': WHATEVER THE INPUT: true; the input reads as it did. -/
def fnExactDivWidesSpec : ChangeSpec := { name := "fnExactDivWides", fn := fun _ => fun
  | [d1, d2] => { results := [.lit (.bool true)], args := [d1, d2] }
  | _ => none }
def fnExactDivWidesRow : OpenClaim := { program := "ytcccndkeaichcaa", sum := "feac5b861ae70ae4e168e11fdcee23f3e4c59f83644b2e187fd147006a04a0a6", func := "loop.example/g01242/laws.FnExactDivWides", spec := "fnExactDivWides", apart := false }
def FnExactDivWidesSaid : Prop := fnExactDivWidesRow.holds Try.pinned (OpenSpec.ofChange fnExactDivWidesSpec)

/-- ITS FALSE NEIGHBOUR: 'it returns false'. Refute it at one input. -/
def fnExactDivWidesWrong : ChangeSpec := { name := "fnExactDivWides", fn := fun _ => fun
  | [d1, d2] => { results := [.lit (.bool false)], args := [d1, d2] }
  | _ => none }
def FnExactDivWidesWrongFalsely : Prop := fnExactDivWidesRow.holds Try.pinned (OpenSpec.ofChange fnExactDivWidesWrong)

/-- 'laws.FnExactDivNear': WHATEVER THE INPUT: true; the input reads as it did. -/
def fnExactDivNearSpec : ChangeSpec := { name := "fnExactDivNear", fn := fun _ => fun
  | [d1, d2] => { results := [.lit (.bool true)], args := [d1, d2] }
  | _ => none }
def fnExactDivNearRow : OpenClaim := { program := "ytcccndkeaichcaa", sum := "feac5b861ae70ae4e168e11fdcee23f3e4c59f83644b2e187fd147006a04a0a6", func := "loop.example/g01242/laws.FnExactDivNear", spec := "fnExactDivNear", apart := false }
def FnExactDivNearSaid : Prop := fnExactDivNearRow.holds Try.pinned (OpenSpec.ofChange fnExactDivNearSpec)

/-- ITS FALSE NEIGHBOUR: 'it returns false'. Refute it at one input. -/
def fnExactDivNearWrong : ChangeSpec := { name := "fnExactDivNear", fn := fun _ => fun
  | [d1, d2] => { results := [.lit (.bool false)], args := [d1, d2] }
  | _ => none }
def FnExactDivNearWrongFalsely : Prop := fnExactDivNearRow.holds Try.pinned (OpenSpec.ofChange fnExactDivNearWrong)

/- THE SECOND FORM. 'bulk': how many values and letters a reading holds, each counted each time it is reached (what is shared counts as often as it is met; a slice's spare places count too). A statement '..UptoSaid' is the law's where the arguments, and the package variables that the reading takes, are together of bulk at most 1048576: NARROWER than '..Said'. Prove '..Said' where nothing that the law and all that it calls make is longer than what came in: it says more and counts as full. Else prove '..UptoSaid'. A law counts once. -/
mutual
def uptoBulk {H : Type} : DataW H → Nat
  | .lit (.string bytes) => bytes.length + 1
  | .lit _ => 1
  | .nil => 1
  | .ptr d => uptoBulk d + 1
  | .slice elems spare => uptoBulkAll elems + uptoBulkAll spare + 1
  | .agg parts => uptoBulkAll parts + 1
  | .iface _ d => uptoBulk d + 1
  | .map entries => uptoBulkEntries entries + 1
  | .held _ => 1
def uptoBulkAll {H : Type} : List (DataW H) → Nat
  | [] => 0
  | d :: r => uptoBulk d + uptoBulkAll r
def uptoBulkEntries {H : Type} : List (Lit × DataW H) → Nat
  | [] => 0
  | x :: r => uptoBulkEntry x + uptoBulkEntries r
def uptoBulkEntry {H : Type} : Lit × DataW H → Nat
  | (.string bytes, d) => bytes.length + uptoBulk d + 1
  | (_, d) => uptoBulk d + 1
 end
def uptoSmall : (H : Type) → List (DataW H) → Bool := fun _ ds => decide (uptoBulkAll ds ≤ 1048576)
def OpenSpec.upto (s : _root_.Go.ChangeSpec) : _root_.Go.OpenSpec := { _root_.Go.OpenSpec.ofChange s with cond := some uptoSmall }

/-- 'laws.FnExactValidWide', WHERE WHAT IT READS IS OF BULK AT MOST 1048576: true; the input reads as it did. -/
def fnExactValidWideUptoRow : OpenClaim := { program := "ytcccndkeaichcaa", sum := "feac5b861ae70ae4e168e11fdcee23f3e4c59f83644b2e187fd147006a04a0a6", func := "loop.example/g01242/laws.FnExactValidWide", spec := "fnExactValidWide", apart := false, narrowed := true }
def FnExactValidWideUptoSaid : Prop := fnExactValidWideUptoRow.holds Try.pinned (OpenSpec.upto fnExactValidWideSpec)

/-- 'laws.FnExactWideOf', WHERE WHAT IT READS IS OF BULK AT MOST 1048576: true; the input reads as it did. -/
def fnExactWideOfUptoRow : OpenClaim := { program := "ytcccndkeaichcaa", sum := "feac5b861ae70ae4e168e11fdcee23f3e4c59f83644b2e187fd147006a04a0a6", func := "loop.example/g01242/laws.FnExactWideOf", spec := "fnExactWideOf", apart := false, narrowed := true }
def FnExactWideOfUptoSaid : Prop := fnExactWideOfUptoRow.holds Try.pinned (OpenSpec.upto fnExactWideOfSpec)

/-- 'laws.FnDivided', WHERE WHAT IT READS IS OF BULK AT MOST 1048576: true; the input reads as it did. -/
def fnDividedUptoRow : OpenClaim := { program := "ytcccndkeaichcaa", sum := "feac5b861ae70ae4e168e11fdcee23f3e4c59f83644b2e187fd147006a04a0a6", func := "loop.example/g01242/laws.FnDivided", spec := "fnDivided", apart := false, narrowed := true }
def FnDividedUptoSaid : Prop := fnDividedUptoRow.holds Try.pinned (OpenSpec.upto fnDividedSpec)

/-- 'laws.FnExactSignOf', WHERE WHAT IT READS IS OF BULK AT MOST 1048576: true; the input reads as it did. -/
def fnExactSignOfUptoRow : OpenClaim := { program := "ytcccndkeaichcaa", sum := "feac5b861ae70ae4e168e11fdcee23f3e4c59f83644b2e187fd147006a04a0a6", func := "loop.example/g01242/laws.FnExactSignOf", spec := "fnExactSignOf", apart := false, narrowed := true }
def FnExactSignOfUptoSaid : Prop := fnExactSignOfUptoRow.holds Try.pinned (OpenSpec.upto fnExactSignOfSpec)

/-- 'laws.FnExactNegWide', WHERE WHAT IT READS IS OF BULK AT MOST 1048576: true; the input reads as it did. -/
def fnExactNegWideUptoRow : OpenClaim := { program := "ytcccndkeaichcaa", sum := "feac5b861ae70ae4e168e11fdcee23f3e4c59f83644b2e187fd147006a04a0a6", func := "loop.example/g01242/laws.FnExactNegWide", spec := "fnExactNegWide", apart := false, narrowed := true }
def FnExactNegWideUptoSaid : Prop := fnExactNegWideUptoRow.holds Try.pinned (OpenSpec.upto fnExactNegWideSpec)

/-- 'laws.FnExactSizeOf', WHERE WHAT IT READS IS OF BULK AT MOST 1048576: true; the input reads as it did. -/
def fnExactSizeOfUptoRow : OpenClaim := { program := "ytcccndkeaichcaa", sum := "feac5b861ae70ae4e168e11fdcee23f3e4c59f83644b2e187fd147006a04a0a6", func := "loop.example/g01242/laws.FnExactSizeOf", spec := "fnExactSizeOf", apart := false, narrowed := true }
def FnExactSizeOfUptoSaid : Prop := fnExactSizeOfUptoRow.holds Try.pinned (OpenSpec.upto fnExactSizeOfSpec)

/-- 'laws.FnExactCompareWides', WHERE WHAT IT READS IS OF BULK AT MOST 1048576: true; the input reads as it did. -/
def fnExactCompareWidesUptoRow : OpenClaim := { program := "ytcccndkeaichcaa", sum := "feac5b861ae70ae4e168e11fdcee23f3e4c59f83644b2e187fd147006a04a0a6", func := "loop.example/g01242/laws.FnExactCompareWides", spec := "fnExactCompareWides", apart := false, narrowed := true }
def FnExactCompareWidesUptoSaid : Prop := fnExactCompareWidesUptoRow.holds Try.pinned (OpenSpec.upto fnExactCompareWidesSpec)

/-- 'laws.FnExactNarrowOf', WHERE WHAT IT READS IS OF BULK AT MOST 1048576: true; the input reads as it did. -/
def fnExactNarrowOfUptoRow : OpenClaim := { program := "ytcccndkeaichcaa", sum := "feac5b861ae70ae4e168e11fdcee23f3e4c59f83644b2e187fd147006a04a0a6", func := "loop.example/g01242/laws.FnExactNarrowOf", spec := "fnExactNarrowOf", apart := false, narrowed := true }
def FnExactNarrowOfUptoSaid : Prop := fnExactNarrowOfUptoRow.holds Try.pinned (OpenSpec.upto fnExactNarrowOfSpec)

/-- 'laws.FnExactMulWides', WHERE WHAT IT READS IS OF BULK AT MOST 1048576: true; the input reads as it did. -/
def fnExactMulWidesUptoRow : OpenClaim := { program := "ytcccndkeaichcaa", sum := "feac5b861ae70ae4e168e11fdcee23f3e4c59f83644b2e187fd147006a04a0a6", func := "loop.example/g01242/laws.FnExactMulWides", spec := "fnExactMulWides", apart := false, narrowed := true }
def FnExactMulWidesUptoSaid : Prop := fnExactMulWidesUptoRow.holds Try.pinned (OpenSpec.upto fnExactMulWidesSpec)

/-- 'laws.FnExactPowerWide', WHERE WHAT IT READS IS OF BULK AT MOST 1048576: true; the input reads as it did. -/
def fnExactPowerWideUptoRow : OpenClaim := { program := "ytcccndkeaichcaa", sum := "feac5b861ae70ae4e168e11fdcee23f3e4c59f83644b2e187fd147006a04a0a6", func := "loop.example/g01242/laws.FnExactPowerWide", spec := "fnExactPowerWide", apart := false, narrowed := true }
def FnExactPowerWideUptoSaid : Prop := fnExactPowerWideUptoRow.holds Try.pinned (OpenSpec.upto fnExactPowerWideSpec)

/-- 'laws.FnExactShiftUp', WHERE WHAT IT READS IS OF BULK AT MOST 1048576: true; the input reads as it did. -/
def fnExactShiftUpUptoRow : OpenClaim := { program := "ytcccndkeaichcaa", sum := "feac5b861ae70ae4e168e11fdcee23f3e4c59f83644b2e187fd147006a04a0a6", func := "loop.example/g01242/laws.FnExactShiftUp", spec := "fnExactShiftUp", apart := false, narrowed := true }
def FnExactShiftUpUptoSaid : Prop := fnExactShiftUpUptoRow.holds Try.pinned (OpenSpec.upto fnExactShiftUpSpec)

/-- 'laws.FnExactAddWides', WHERE WHAT IT READS IS OF BULK AT MOST 1048576: true; the input reads as it did. -/
def fnExactAddWidesUptoRow : OpenClaim := { program := "ytcccndkeaichcaa", sum := "feac5b861ae70ae4e168e11fdcee23f3e4c59f83644b2e187fd147006a04a0a6", func := "loop.example/g01242/laws.FnExactAddWides", spec := "fnExactAddWides", apart := false, narrowed := true }
def FnExactAddWidesUptoSaid : Prop := fnExactAddWidesUptoRow.holds Try.pinned (OpenSpec.upto fnExactAddWidesSpec)

/-- 'laws.FnExactSubWides', WHERE WHAT IT READS IS OF BULK AT MOST 1048576: true; the input reads as it did. -/
def fnExactSubWidesUptoRow : OpenClaim := { program := "ytcccndkeaichcaa", sum := "feac5b861ae70ae4e168e11fdcee23f3e4c59f83644b2e187fd147006a04a0a6", func := "loop.example/g01242/laws.FnExactSubWides", spec := "fnExactSubWides", apart := false, narrowed := true }
def FnExactSubWidesUptoSaid : Prop := fnExactSubWidesUptoRow.holds Try.pinned (OpenSpec.upto fnExactSubWidesSpec)

/-- 'laws.FnExactShiftNear', WHERE WHAT IT READS IS OF BULK AT MOST 1048576: true; the input reads as it did. -/
def fnExactShiftNearUptoRow : OpenClaim := { program := "ytcccndkeaichcaa", sum := "feac5b861ae70ae4e168e11fdcee23f3e4c59f83644b2e187fd147006a04a0a6", func := "loop.example/g01242/laws.FnExactShiftNear", spec := "fnExactShiftNear", apart := false, narrowed := true }
def FnExactShiftNearUptoSaid : Prop := fnExactShiftNearUptoRow.holds Try.pinned (OpenSpec.upto fnExactShiftNearSpec)

/-- 'laws.FnExactCommonWide', WHERE WHAT IT READS IS OF BULK AT MOST 1048576: true; the input reads as it did. -/
def fnExactCommonWideUptoRow : OpenClaim := { program := "ytcccndkeaichcaa", sum := "feac5b861ae70ae4e168e11fdcee23f3e4c59f83644b2e187fd147006a04a0a6", func := "loop.example/g01242/laws.FnExactCommonWide", spec := "fnExactCommonWide", apart := false, narrowed := true }
def FnExactCommonWideUptoSaid : Prop := fnExactCommonWideUptoRow.holds Try.pinned (OpenSpec.upto fnExactCommonWideSpec)

/-- 'laws.FnExactReadWide', WHERE WHAT IT READS IS OF BULK AT MOST 1048576: true; the input reads as it did. -/
def fnExactReadWideUptoRow : OpenClaim := { program := "ytcccndkeaichcaa", sum := "feac5b861ae70ae4e168e11fdcee23f3e4c59f83644b2e187fd147006a04a0a6", func := "loop.example/g01242/laws.FnExactReadWide", spec := "fnExactReadWide", apart := false, narrowed := true }
def FnExactReadWideUptoSaid : Prop := fnExactReadWideUptoRow.holds Try.pinned (OpenSpec.upto fnExactReadWideSpec)

/-- 'laws.FnExactRootWide', WHERE WHAT IT READS IS OF BULK AT MOST 1048576: true; the input reads as it did. -/
def fnExactRootWideUptoRow : OpenClaim := { program := "ytcccndkeaichcaa", sum := "feac5b861ae70ae4e168e11fdcee23f3e4c59f83644b2e187fd147006a04a0a6", func := "loop.example/g01242/laws.FnExactRootWide", spec := "fnExactRootWide", apart := false, narrowed := true }
def FnExactRootWideUptoSaid : Prop := fnExactRootWideUptoRow.holds Try.pinned (OpenSpec.upto fnExactRootWideSpec)

/-- 'laws.FnExactDivWides', WHERE WHAT IT READS IS OF BULK AT MOST 1048576: true; the input reads as it did. -/
def fnExactDivWidesUptoRow : OpenClaim := { program := "ytcccndkeaichcaa", sum := "feac5b861ae70ae4e168e11fdcee23f3e4c59f83644b2e187fd147006a04a0a6", func := "loop.example/g01242/laws.FnExactDivWides", spec := "fnExactDivWides", apart := false, narrowed := true }
def FnExactDivWidesUptoSaid : Prop := fnExactDivWidesUptoRow.holds Try.pinned (OpenSpec.upto fnExactDivWidesSpec)

/-- 'laws.FnExactDivNear', WHERE WHAT IT READS IS OF BULK AT MOST 1048576: true; the input reads as it did. -/
def fnExactDivNearUptoRow : OpenClaim := { program := "ytcccndkeaichcaa", sum := "feac5b861ae70ae4e168e11fdcee23f3e4c59f83644b2e187fd147006a04a0a6", func := "loop.example/g01242/laws.FnExactDivNear", spec := "fnExactDivNear", apart := false, narrowed := true }
def FnExactDivNearUptoSaid : Prop := fnExactDivNearUptoRow.holds Try.pinned (OpenSpec.upto fnExactDivNearSpec)

end Rows
end Go.Proofs.Ytcccndkeaichcaa
