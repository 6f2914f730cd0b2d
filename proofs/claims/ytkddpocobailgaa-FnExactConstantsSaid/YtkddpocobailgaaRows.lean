/-
  No cell of these rows narrows 'for every input' (looked for: loops, veiled, ifaces, maps, wideKeys, modest, calm, conditions, laid).
  DERIVED. THE GIVEN ROWS OF THIS SEAT. 12 by the template 'for every input the law returns true; each argument reads behind the call as it read before'; 0 by the template 'total and deterministic' (their statements: YtkddpocobailgaaTotals.lean).
  GIVEN WITH THE SEED: the statements are not yours to turn. If you find one false, say at which input.
  Laid BY PROGRAM, IN A SANDBOX (cutbox-rows.mjs): the forced cells as the released guide's own fill.sh prints them over the translation 1ed318e5e18be285… (all of the seat's roots in one cut). By AI agents, Wed Nov 11 2026. No macro, syntax, notation, axiom, sorry.
-/
import Derived.Test.YtkddpocobailgaaChecked
import GoSem.Claim
import GoSem.ClaimJoined
import GoSem.ClaimMapViews
import Derived.JoinedTies
import Derived.KernelRfl
namespace Go.Proofs.Ytkddpocobailgaa
/- THE CELL 'sum', in the pinned program and in every row, IS THE sha256 OF THE DUMP (.gsa) THAT YtkddpocobailgaaProg.lean LOADS. Nothing in Lean hashes anything: it is a label: what it is worth is what the hold of that sum in a sandbox is worth. -/
noncomputable def Try.pinned : Pinned := { name := "ytkddpocobailgaa", sum := "1ed318e5e18be285b38c1c69639917f56f7106d2f5f5131ca88d469fe6e7894b", checked := Try.checked }
namespace Rows
def none {H : Type} : Left H := { results := [], args := [] }

/-- 'laws.FnExactConstants': WHATEVER THE INPUT: true; the input reads as it did. -/
def fnExactConstantsSpec : ChangeSpec := { name := "fnExactConstants", fn := fun _ => fun
  | [] => { results := [.lit (.bool true)], args := [] }
  | _ => none }
def fnExactConstantsRow : OpenClaim := { program := "ytkddpocobailgaa", sum := "1ed318e5e18be285b38c1c69639917f56f7106d2f5f5131ca88d469fe6e7894b", func := "loop.example/g01242/laws.FnExactConstants", spec := "fnExactConstants", apart := false }
def FnExactConstantsSaid : Prop := fnExactConstantsRow.holds Try.pinned (OpenSpec.ofChange fnExactConstantsSpec)

/-- ITS FALSE NEIGHBOUR: 'it returns false'. Refute it at one input. -/
def fnExactConstantsWrong : ChangeSpec := { name := "fnExactConstants", fn := fun _ => fun
  | [] => { results := [.lit (.bool false)], args := [] }
  | _ => none }
def FnExactConstantsWrongFalsely : Prop := fnExactConstantsRow.holds Try.pinned (OpenSpec.ofChange fnExactConstantsWrong)

/-- 'laws.FnExactCodeName': WHATEVER THE INPUT: true; the input reads as it did. -/
def fnExactCodeNameSpec : ChangeSpec := { name := "fnExactCodeName", fn := fun _ => fun
  | [d] => { results := [.lit (.bool true)], args := [d] }
  | _ => none }
def fnExactCodeNameRow : OpenClaim := { program := "ytkddpocobailgaa", sum := "1ed318e5e18be285b38c1c69639917f56f7106d2f5f5131ca88d469fe6e7894b", func := "loop.example/g01242/laws.FnExactCodeName", spec := "fnExactCodeName", apart := false }
def FnExactCodeNameSaid : Prop := fnExactCodeNameRow.holds Try.pinned (OpenSpec.ofChange fnExactCodeNameSpec)

/-- ITS FALSE NEIGHBOUR: 'it returns false'. Refute it at one input. -/
def fnExactCodeNameWrong : ChangeSpec := { name := "fnExactCodeName", fn := fun _ => fun
  | [d] => { results := [.lit (.bool false)], args := [d] }
  | _ => none }
def FnExactCodeNameWrongFalsely : Prop := fnExactCodeNameRow.holds Try.pinned (OpenSpec.ofChange fnExactCodeNameWrong)

/-- 'laws.FnExactValidWide': WHATEVER THE INPUT: true; the input reads as it did. -/
def fnExactValidWideSpec : ChangeSpec := { name := "fnExactValidWide", fn := fun _ => fun
  | [d] => { results := [.lit (.bool true)], args := [d] }
  | _ => none }
def fnExactValidWideRow : OpenClaim := { program := "ytkddpocobailgaa", sum := "1ed318e5e18be285b38c1c69639917f56f7106d2f5f5131ca88d469fe6e7894b", func := "loop.example/g01242/laws.FnExactValidWide", spec := "fnExactValidWide", apart := false }
def FnExactValidWideSaid : Prop := fnExactValidWideRow.holds Try.pinned (OpenSpec.ofChange fnExactValidWideSpec)

/-- ITS FALSE NEIGHBOUR: 'it returns false'. Refute it at one input. -/
def fnExactValidWideWrong : ChangeSpec := { name := "fnExactValidWide", fn := fun _ => fun
  | [d] => { results := [.lit (.bool false)], args := [d] }
  | _ => none }
def FnExactValidWideWrongFalsely : Prop := fnExactValidWideRow.holds Try.pinned (OpenSpec.ofChange fnExactValidWideWrong)

/-- 'laws.FnExactValidMoebius': WHATEVER THE INPUT: true; the input reads as it did. -/
def fnExactValidMoebiusSpec : ChangeSpec := { name := "fnExactValidMoebius", fn := fun _ => fun
  | [d] => { results := [.lit (.bool true)], args := [d] }
  | _ => none }
def fnExactValidMoebiusRow : OpenClaim := { program := "ytkddpocobailgaa", sum := "1ed318e5e18be285b38c1c69639917f56f7106d2f5f5131ca88d469fe6e7894b", func := "loop.example/g01242/laws.FnExactValidMoebius", spec := "fnExactValidMoebius", apart := false }
def FnExactValidMoebiusSaid : Prop := fnExactValidMoebiusRow.holds Try.pinned (OpenSpec.ofChange fnExactValidMoebiusSpec)

/-- ITS FALSE NEIGHBOUR: 'it returns false'. Refute it at one input. -/
def fnExactValidMoebiusWrong : ChangeSpec := { name := "fnExactValidMoebius", fn := fun _ => fun
  | [d] => { results := [.lit (.bool false)], args := [d] }
  | _ => none }
def FnExactValidMoebiusWrongFalsely : Prop := fnExactValidMoebiusRow.holds Try.pinned (OpenSpec.ofChange fnExactValidMoebiusWrong)

/-- 'laws.FnExactWideOf': WHATEVER THE INPUT: true; the input reads as it did. -/
def fnExactWideOfSpec : ChangeSpec := { name := "fnExactWideOf", fn := fun _ => fun
  | [d] => { results := [.lit (.bool true)], args := [d] }
  | _ => none }
def fnExactWideOfRow : OpenClaim := { program := "ytkddpocobailgaa", sum := "1ed318e5e18be285b38c1c69639917f56f7106d2f5f5131ca88d469fe6e7894b", func := "loop.example/g01242/laws.FnExactWideOf", spec := "fnExactWideOf", apart := false }
def FnExactWideOfSaid : Prop := fnExactWideOfRow.holds Try.pinned (OpenSpec.ofChange fnExactWideOfSpec)

/-- ITS FALSE NEIGHBOUR: 'it returns false'. Refute it at one input. -/
def fnExactWideOfWrong : ChangeSpec := { name := "fnExactWideOf", fn := fun _ => fun
  | [d] => { results := [.lit (.bool false)], args := [d] }
  | _ => none }
def FnExactWideOfWrongFalsely : Prop := fnExactWideOfRow.holds Try.pinned (OpenSpec.ofChange fnExactWideOfWrong)

/-- 'laws.FnExactValidRatio': WHATEVER THE INPUT: true; the input reads as it did. -/
def fnExactValidRatioSpec : ChangeSpec := { name := "fnExactValidRatio", fn := fun _ => fun
  | [d] => { results := [.lit (.bool true)], args := [d] }
  | _ => none }
def fnExactValidRatioRow : OpenClaim := { program := "ytkddpocobailgaa", sum := "1ed318e5e18be285b38c1c69639917f56f7106d2f5f5131ca88d469fe6e7894b", func := "loop.example/g01242/laws.FnExactValidRatio", spec := "fnExactValidRatio", apart := false }
def FnExactValidRatioSaid : Prop := fnExactValidRatioRow.holds Try.pinned (OpenSpec.ofChange fnExactValidRatioSpec)

/-- ITS FALSE NEIGHBOUR: 'it returns false'. Refute it at one input. -/
def fnExactValidRatioWrong : ChangeSpec := { name := "fnExactValidRatio", fn := fun _ => fun
  | [d] => { results := [.lit (.bool false)], args := [d] }
  | _ => none }
def FnExactValidRatioWrongFalsely : Prop := fnExactValidRatioRow.holds Try.pinned (OpenSpec.ofChange fnExactValidRatioWrong)

/-- 'laws.FnExactSignOf': WHATEVER THE INPUT: true; the input reads as it did. -/
def fnExactSignOfSpec : ChangeSpec := { name := "fnExactSignOf", fn := fun _ => fun
  | [d] => { results := [.lit (.bool true)], args := [d] }
  | _ => none }
def fnExactSignOfRow : OpenClaim := { program := "ytkddpocobailgaa", sum := "1ed318e5e18be285b38c1c69639917f56f7106d2f5f5131ca88d469fe6e7894b", func := "loop.example/g01242/laws.FnExactSignOf", spec := "fnExactSignOf", apart := false }
def FnExactSignOfSaid : Prop := fnExactSignOfRow.holds Try.pinned (OpenSpec.ofChange fnExactSignOfSpec)

/-- ITS FALSE NEIGHBOUR: 'it returns false'. Refute it at one input. -/
def fnExactSignOfWrong : ChangeSpec := { name := "fnExactSignOf", fn := fun _ => fun
  | [d] => { results := [.lit (.bool false)], args := [d] }
  | _ => none }
def FnExactSignOfWrongFalsely : Prop := fnExactSignOfRow.holds Try.pinned (OpenSpec.ofChange fnExactSignOfWrong)

/-- 'laws.FnExactNegWide': WHATEVER THE INPUT: true; the input reads as it did. -/
def fnExactNegWideSpec : ChangeSpec := { name := "fnExactNegWide", fn := fun _ => fun
  | [d] => { results := [.lit (.bool true)], args := [d] }
  | _ => none }
def fnExactNegWideRow : OpenClaim := { program := "ytkddpocobailgaa", sum := "1ed318e5e18be285b38c1c69639917f56f7106d2f5f5131ca88d469fe6e7894b", func := "loop.example/g01242/laws.FnExactNegWide", spec := "fnExactNegWide", apart := false }
def FnExactNegWideSaid : Prop := fnExactNegWideRow.holds Try.pinned (OpenSpec.ofChange fnExactNegWideSpec)

/-- ITS FALSE NEIGHBOUR: 'it returns false'. Refute it at one input. -/
def fnExactNegWideWrong : ChangeSpec := { name := "fnExactNegWide", fn := fun _ => fun
  | [d] => { results := [.lit (.bool false)], args := [d] }
  | _ => none }
def FnExactNegWideWrongFalsely : Prop := fnExactNegWideRow.holds Try.pinned (OpenSpec.ofChange fnExactNegWideWrong)

/-- 'laws.FnExactSizeOf': WHATEVER THE INPUT: true; the input reads as it did. -/
def fnExactSizeOfSpec : ChangeSpec := { name := "fnExactSizeOf", fn := fun _ => fun
  | [d] => { results := [.lit (.bool true)], args := [d] }
  | _ => none }
def fnExactSizeOfRow : OpenClaim := { program := "ytkddpocobailgaa", sum := "1ed318e5e18be285b38c1c69639917f56f7106d2f5f5131ca88d469fe6e7894b", func := "loop.example/g01242/laws.FnExactSizeOf", spec := "fnExactSizeOf", apart := false }
def FnExactSizeOfSaid : Prop := fnExactSizeOfRow.holds Try.pinned (OpenSpec.ofChange fnExactSizeOfSpec)

/-- ITS FALSE NEIGHBOUR: 'it returns false'. Refute it at one input. -/
def fnExactSizeOfWrong : ChangeSpec := { name := "fnExactSizeOf", fn := fun _ => fun
  | [d] => { results := [.lit (.bool false)], args := [d] }
  | _ => none }
def FnExactSizeOfWrongFalsely : Prop := fnExactSizeOfRow.holds Try.pinned (OpenSpec.ofChange fnExactSizeOfWrong)

/-- 'laws.FnExactCompareRatios': WHATEVER THE INPUT: true; the input reads as it did. -/
def fnExactCompareRatiosSpec : ChangeSpec := { name := "fnExactCompareRatios", fn := fun _ => fun
  | [d1, d2] => { results := [.lit (.bool true)], args := [d1, d2] }
  | _ => none }
def fnExactCompareRatiosRow : OpenClaim := { program := "ytkddpocobailgaa", sum := "1ed318e5e18be285b38c1c69639917f56f7106d2f5f5131ca88d469fe6e7894b", func := "loop.example/g01242/laws.FnExactCompareRatios", spec := "fnExactCompareRatios", apart := false }
def FnExactCompareRatiosSaid : Prop := fnExactCompareRatiosRow.holds Try.pinned (OpenSpec.ofChange fnExactCompareRatiosSpec)

/-- ITS FALSE NEIGHBOUR: 'it returns false'. Refute it at one input. -/
def fnExactCompareRatiosWrong : ChangeSpec := { name := "fnExactCompareRatios", fn := fun _ => fun
  | [d1, d2] => { results := [.lit (.bool false)], args := [d1, d2] }
  | _ => none }
def FnExactCompareRatiosWrongFalsely : Prop := fnExactCompareRatiosRow.holds Try.pinned (OpenSpec.ofChange fnExactCompareRatiosWrong)

/-- 'laws.FnExactCompareWides': WHATEVER THE INPUT: true; the input reads as it did. -/
def fnExactCompareWidesSpec : ChangeSpec := { name := "fnExactCompareWides", fn := fun _ => fun
  | [d1, d2] => { results := [.lit (.bool true)], args := [d1, d2] }
  | _ => none }
def fnExactCompareWidesRow : OpenClaim := { program := "ytkddpocobailgaa", sum := "1ed318e5e18be285b38c1c69639917f56f7106d2f5f5131ca88d469fe6e7894b", func := "loop.example/g01242/laws.FnExactCompareWides", spec := "fnExactCompareWides", apart := false }
def FnExactCompareWidesSaid : Prop := fnExactCompareWidesRow.holds Try.pinned (OpenSpec.ofChange fnExactCompareWidesSpec)

/-- ITS FALSE NEIGHBOUR: 'it returns false'. Refute it at one input. -/
def fnExactCompareWidesWrong : ChangeSpec := { name := "fnExactCompareWides", fn := fun _ => fun
  | [d1, d2] => { results := [.lit (.bool false)], args := [d1, d2] }
  | _ => none }
def FnExactCompareWidesWrongFalsely : Prop := fnExactCompareWidesRow.holds Try.pinned (OpenSpec.ofChange fnExactCompareWidesWrong)

/-- 'laws.FnExactSameTerm': WHATEVER THE INPUT: true; the input reads as it did. -/
def fnExactSameTermSpec : ChangeSpec := { name := "fnExactSameTerm", fn := fun _ => fun
  | [d1, d2] => { results := [.lit (.bool true)], args := [d1, d2] }
  | _ => none }
def fnExactSameTermRow : OpenClaim := { program := "ytkddpocobailgaa", sum := "1ed318e5e18be285b38c1c69639917f56f7106d2f5f5131ca88d469fe6e7894b", func := "loop.example/g01242/laws.FnExactSameTerm", spec := "fnExactSameTerm", apart := false }
def FnExactSameTermSaid : Prop := fnExactSameTermRow.holds Try.pinned (OpenSpec.ofChange fnExactSameTermSpec)

/-- ITS FALSE NEIGHBOUR: 'it returns false'. Refute it at one input. -/
def fnExactSameTermWrong : ChangeSpec := { name := "fnExactSameTerm", fn := fun _ => fun
  | [d1, d2] => { results := [.lit (.bool false)], args := [d1, d2] }
  | _ => none }
def FnExactSameTermWrongFalsely : Prop := fnExactSameTermRow.holds Try.pinned (OpenSpec.ofChange fnExactSameTermWrong)

/- THE SECOND FORM. 'bulk': how many values and letters a reading holds, each counted each time it is reached (what is shared counts as often as it is met; a slice's spare places count too). A statement '..UptoSaid' is the law's where the arguments, and the package variables that the reading takes, are together of bulk at most 1048576: NARROWER than '..Said'. Prove '..Said' where nothing that the law and all that it calls make is longer than what came in: it says more and counts as full. Else prove '..UptoSaid'. A law counts once. -/
mutual
def uptoBulk {H : Type} : DataW H → Nat
  | .lit (.string bytes) => bytes.length + 1
  | .lit _ => 1
  | .nil => 1
  | .ptr d => uptoBulk d + 1
  | .slice elems spare => uptoBulkAll elems + uptoBulkAll spare + 1
  | .agg parts => uptoBulkAll parts + 1
  | .iface _ d => uptoBulk d + 1
  | .map entries => uptoBulkEntries entries + 1
  | .held _ => 1
def uptoBulkAll {H : Type} : List (DataW H) → Nat
  | [] => 0
  | d :: r => uptoBulk d + uptoBulkAll r
def uptoBulkEntries {H : Type} : List (Lit × DataW H) → Nat
  | [] => 0
  | x :: r => uptoBulkEntry x + uptoBulkEntries r
def uptoBulkEntry {H : Type} : Lit × DataW H → Nat
  | (.string bytes, d) => bytes.length + uptoBulk d + 1
  | (_, d) => uptoBulk d + 1
 end
def uptoSmall : (H : Type) → List (DataW H) → Bool := fun _ ds => decide (uptoBulkAll ds ≤ 1048576)
def OpenSpec.upto (s : _root_.Go.ChangeSpec) : _root_.Go.OpenSpec := { _root_.Go.OpenSpec.ofChange s with cond := some uptoSmall }

/-- 'laws.FnExactConstants', WHERE WHAT IT READS IS OF BULK AT MOST 1048576: true; the input reads as it did. -/
def fnExactConstantsUptoRow : OpenClaim := { program := "ytkddpocobailgaa", sum := "1ed318e5e18be285b38c1c69639917f56f7106d2f5f5131ca88d469fe6e7894b", func := "loop.example/g01242/laws.FnExactConstants", spec := "fnExactConstants", apart := false, narrowed := true }
def FnExactConstantsUptoSaid : Prop := fnExactConstantsUptoRow.holds Try.pinned (OpenSpec.upto fnExactConstantsSpec)

/-- 'laws.FnExactCodeName', WHERE WHAT IT READS IS OF BULK AT MOST 1048576: true; the input reads as it did. -/
def fnExactCodeNameUptoRow : OpenClaim := { program := "ytkddpocobailgaa", sum := "1ed318e5e18be285b38c1c69639917f56f7106d2f5f5131ca88d469fe6e7894b", func := "loop.example/g01242/laws.FnExactCodeName", spec := "fnExactCodeName", apart := false, narrowed := true }
def FnExactCodeNameUptoSaid : Prop := fnExactCodeNameUptoRow.holds Try.pinned (OpenSpec.upto fnExactCodeNameSpec)

/-- 'laws.FnExactValidWide', WHERE WHAT IT READS IS OF BULK AT MOST 1048576: true; the input reads as it did. -/
def fnExactValidWideUptoRow : OpenClaim := { program := "ytkddpocobailgaa", sum := "1ed318e5e18be285b38c1c69639917f56f7106d2f5f5131ca88d469fe6e7894b", func := "loop.example/g01242/laws.FnExactValidWide", spec := "fnExactValidWide", apart := false, narrowed := true }
def FnExactValidWideUptoSaid : Prop := fnExactValidWideUptoRow.holds Try.pinned (OpenSpec.upto fnExactValidWideSpec)

/-- 'laws.FnExactValidMoebius', WHERE WHAT IT READS IS OF BULK AT MOST 1048576: true; the input reads as it did. -/
def fnExactValidMoebiusUptoRow : OpenClaim := { program := "ytkddpocobailgaa", sum := "1ed318e5e18be285b38c1c69639917f56f7106d2f5f5131ca88d469fe6e7894b", func := "loop.example/g01242/laws.FnExactValidMoebius", spec := "fnExactValidMoebius", apart := false, narrowed := true }
def FnExactValidMoebiusUptoSaid : Prop := fnExactValidMoebiusUptoRow.holds Try.pinned (OpenSpec.upto fnExactValidMoebiusSpec)

/-- 'laws.FnExactWideOf', WHERE WHAT IT READS IS OF BULK AT MOST 1048576: true; the input reads as it did. -/
def fnExactWideOfUptoRow : OpenClaim := { program := "ytkddpocobailgaa", sum := "1ed318e5e18be285b38c1c69639917f56f7106d2f5f5131ca88d469fe6e7894b", func := "loop.example/g01242/laws.FnExactWideOf", spec := "fnExactWideOf", apart := false, narrowed := true }
def FnExactWideOfUptoSaid : Prop := fnExactWideOfUptoRow.holds Try.pinned (OpenSpec.upto fnExactWideOfSpec)

/-- 'laws.FnExactValidRatio', WHERE WHAT IT READS IS OF BULK AT MOST 1048576: true; the input reads as it did. -/
def fnExactValidRatioUptoRow : OpenClaim := { program := "ytkddpocobailgaa", sum := "1ed318e5e18be285b38c1c69639917f56f7106d2f5f5131ca88d469fe6e7894b", func := "loop.example/g01242/laws.FnExactValidRatio", spec := "fnExactValidRatio", apart := false, narrowed := true }
def FnExactValidRatioUptoSaid : Prop := fnExactValidRatioUptoRow.holds Try.pinned (OpenSpec.upto fnExactValidRatioSpec)

/-- 'laws.FnExactSignOf', WHERE WHAT IT READS IS OF BULK AT MOST 1048576: true; the input reads as it did. -/
def fnExactSignOfUptoRow : OpenClaim := { program := "ytkddpocobailgaa", sum := "1ed318e5e18be285b38c1c69639917f56f7106d2f5f5131ca88d469fe6e7894b", func := "loop.example/g01242/laws.FnExactSignOf", spec := "fnExactSignOf", apart := false, narrowed := true }
def FnExactSignOfUptoSaid : Prop := fnExactSignOfUptoRow.holds Try.pinned (OpenSpec.upto fnExactSignOfSpec)

/-- 'laws.FnExactNegWide', WHERE WHAT IT READS IS OF BULK AT MOST 1048576: true; the input reads as it did. -/
def fnExactNegWideUptoRow : OpenClaim := { program := "ytkddpocobailgaa", sum := "1ed318e5e18be285b38c1c69639917f56f7106d2f5f5131ca88d469fe6e7894b", func := "loop.example/g01242/laws.FnExactNegWide", spec := "fnExactNegWide", apart := false, narrowed := true }
def FnExactNegWideUptoSaid : Prop := fnExactNegWideUptoRow.holds Try.pinned (OpenSpec.upto fnExactNegWideSpec)

/-- 'laws.FnExactSizeOf', WHERE WHAT IT READS IS OF BULK AT MOST 1048576: true; the input reads as it did. -/
def fnExactSizeOfUptoRow : OpenClaim := { program := "ytkddpocobailgaa", sum := "1ed318e5e18be285b38c1c69639917f56f7106d2f5f5131ca88d469fe6e7894b", func := "loop.example/g01242/laws.FnExactSizeOf", spec := "fnExactSizeOf", apart := false, narrowed := true }
def FnExactSizeOfUptoSaid : Prop := fnExactSizeOfUptoRow.holds Try.pinned (OpenSpec.upto fnExactSizeOfSpec)

/-- 'laws.FnExactCompareRatios', WHERE WHAT IT READS IS OF BULK AT MOST 1048576: true; the input reads as it did. -/
def fnExactCompareRatiosUptoRow : OpenClaim := { program := "ytkddpocobailgaa", sum := "1ed318e5e18be285b38c1c69639917f56f7106d2f5f5131ca88d469fe6e7894b", func := "loop.example/g01242/laws.FnExactCompareRatios", spec := "fnExactCompareRatios", apart := false, narrowed := true }
def FnExactCompareRatiosUptoSaid : Prop := fnExactCompareRatiosUptoRow.holds Try.pinned (OpenSpec.upto fnExactCompareRatiosSpec)

/-- 'laws.FnExactCompareWides', WHERE WHAT IT READS IS OF BULK AT MOST 1048576: true; the input reads as it did. -/
def fnExactCompareWidesUptoRow : OpenClaim := { program := "ytkddpocobailgaa", sum := "1ed318e5e18be285b38c1c69639917f56f7106d2f5f5131ca88d469fe6e7894b", func := "loop.example/g01242/laws.FnExactCompareWides", spec := "fnExactCompareWides", apart := false, narrowed := true }
def FnExactCompareWidesUptoSaid : Prop := fnExactCompareWidesUptoRow.holds Try.pinned (OpenSpec.upto fnExactCompareWidesSpec)

/-- 'laws.FnExactSameTerm', WHERE WHAT IT READS IS OF BULK AT MOST 1048576: true; the input reads as it did. -/
def fnExactSameTermUptoRow : OpenClaim := { program := "ytkddpocobailgaa", sum := "1ed318e5e18be285b38c1c69639917f56f7106d2f5f5131ca88d469fe6e7894b", func := "loop.example/g01242/laws.FnExactSameTerm", spec := "fnExactSameTerm", apart := false, narrowed := true }
def FnExactSameTermUptoSaid : Prop := fnExactSameTermUptoRow.holds Try.pinned (OpenSpec.upto fnExactSameTermSpec)

end Rows
end Go.Proofs.Ytkddpocobailgaa
