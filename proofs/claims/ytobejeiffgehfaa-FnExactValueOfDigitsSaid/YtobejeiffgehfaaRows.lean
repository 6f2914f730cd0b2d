/-
  No cell of these rows narrows 'for every input' (looked for: loops, veiled, ifaces, maps, wideKeys, modest, calm, conditions, laid).
  DERIVED. THE GIVEN ROWS OF THIS SEAT. 8 by the template 'for every input the law returns true; each argument reads behind the call as it read before'; 0 by the template 'total and deterministic' (their statements: YtobejeiffgehfaaTotals.lean).
  GIVEN WITH THE SEED: the statements are not yours to turn. If you find one false, say at which input.
  Laid BY PROGRAM, IN A SANDBOX (cutbox-rows.mjs): the forced cells as the released guide's own fill.sh prints them over the translation 3e5a842a18eb712c… (all of the seat's roots in one cut). By AI agents, Wed Nov 11 2026. No macro, syntax, notation, axiom, sorry.
-/
import Derived.Test.YtobejeiffgehfaaChecked
import GoSem.Claim
import GoSem.ClaimJoined
import GoSem.ClaimMapViews
import Derived.JoinedTies
import Derived.KernelRfl
namespace Go.Proofs.Ytobejeiffgehfaa
/- THE CELL 'sum', in the pinned program and in every row, IS THE sha256 OF THE DUMP (.gsa) THAT YtobejeiffgehfaaProg.lean LOADS. Nothing in Lean hashes anything: it is a label: what it is worth is what the hold of that sum in a sandbox is worth. -/
noncomputable def Try.pinned : Pinned := { name := "ytobejeiffgehfaa", sum := "3e5a842a18eb712cb4e25fd0ebe1c52268086a973f251a606b2ddbe93869abc3", checked := Try.checked }
namespace Rows
def none {H : Type} : Left H := { results := [], args := [] }

/-- 'laws.FnExactSameTerm': WHATEVER THE INPUT: true; the input reads as it did. -/
def fnExactSameTermSpec : ChangeSpec := { name := "fnExactSameTerm", fn := fun _ => fun
  | [d1, d2] => { results := [.lit (.bool true)], args := [d1, d2] }
  | _ => none }
def fnExactSameTermRow : OpenClaim := { program := "ytobejeiffgehfaa", sum := "3e5a842a18eb712cb4e25fd0ebe1c52268086a973f251a606b2ddbe93869abc3", func := "loop.example/g01242/laws.FnExactSameTerm", spec := "fnExactSameTerm", plainKeys := false, apart := false }
def FnExactSameTermSaid : Prop := fnExactSameTermRow.holds Try.pinned (OpenSpec.ofChange fnExactSameTermSpec)

/-- ITS FALSE NEIGHBOUR: 'it returns false'. Refute it at one input. -/
def fnExactSameTermWrong : ChangeSpec := { name := "fnExactSameTerm", fn := fun _ => fun
  | [d1, d2] => { results := [.lit (.bool false)], args := [d1, d2] }
  | _ => none }
def FnExactSameTermWrongFalsely : Prop := fnExactSameTermRow.holds Try.pinned (OpenSpec.ofChange fnExactSameTermWrong)

/-- 'laws.FnExactValidTerm': WHATEVER THE INPUT: true; the input reads as it did. -/
def fnExactValidTermSpec : ChangeSpec := { name := "fnExactValidTerm", fn := fun _ => fun
  | [d] => { results := [.lit (.bool true)], args := [d] }
  | _ => none }
def fnExactValidTermRow : OpenClaim := { program := "ytobejeiffgehfaa", sum := "3e5a842a18eb712cb4e25fd0ebe1c52268086a973f251a606b2ddbe93869abc3", func := "loop.example/g01242/laws.FnExactValidTerm", spec := "fnExactValidTerm", plainKeys := false, apart := false }
def FnExactValidTermSaid : Prop := fnExactValidTermRow.holds Try.pinned (OpenSpec.ofChange fnExactValidTermSpec)

/-- ITS FALSE NEIGHBOUR: 'it returns false'. Refute it at one input. -/
def fnExactValidTermWrong : ChangeSpec := { name := "fnExactValidTerm", fn := fun _ => fun
  | [d] => { results := [.lit (.bool false)], args := [d] }
  | _ => none }
def FnExactValidTermWrongFalsely : Prop := fnExactValidTermRow.holds Try.pinned (OpenSpec.ofChange fnExactValidTermWrong)

/-- 'laws.FnExactValueOfDigits': WHATEVER THE INPUT: true; the input reads as it did. -/
def fnExactValueOfDigitsSpec : ChangeSpec := { name := "fnExactValueOfDigits", fn := fun _ => fun
  | [d1, d2] => { results := [.lit (.bool true)], args := [d1, d2] }
  | _ => none }
def fnExactValueOfDigitsRow : OpenClaim := { program := "ytobejeiffgehfaa", sum := "3e5a842a18eb712cb4e25fd0ebe1c52268086a973f251a606b2ddbe93869abc3", func := "loop.example/g01242/laws.FnExactValueOfDigits", spec := "fnExactValueOfDigits", unfollowed := true, recurses := true, plainKeys := false, apart := false }
def FnExactValueOfDigitsSaid : Prop := fnExactValueOfDigitsRow.holds Try.pinned (OpenSpec.ofChange fnExactValueOfDigitsSpec)

/-- ITS FALSE NEIGHBOUR: 'it returns false'. Refute it at one input. -/
def fnExactValueOfDigitsWrong : ChangeSpec := { name := "fnExactValueOfDigits", fn := fun _ => fun
  | [d1, d2] => { results := [.lit (.bool false)], args := [d1, d2] }
  | _ => none }
def FnExactValueOfDigitsWrongFalsely : Prop := fnExactValueOfDigitsRow.holds Try.pinned (OpenSpec.ofChange fnExactValueOfDigitsWrong)

/-- 'laws.FnExactIsWithin': WHATEVER THE INPUT: true; the input reads as it did. -/
def fnExactIsWithinSpec : ChangeSpec := { name := "fnExactIsWithin", fn := fun _ => fun
  | [d1, d2, d3, d4] => { results := [.lit (.bool true)], args := [d1, d2, d3, d4] }
  | _ => none }
def fnExactIsWithinRow : OpenClaim := { program := "ytobejeiffgehfaa", sum := "3e5a842a18eb712cb4e25fd0ebe1c52268086a973f251a606b2ddbe93869abc3", func := "loop.example/g01242/laws.FnExactIsWithin", spec := "fnExactIsWithin", plainKeys := false, apart := false }
def FnExactIsWithinSaid : Prop := fnExactIsWithinRow.holds Try.pinned (OpenSpec.ofChange fnExactIsWithinSpec)

/-- ITS FALSE NEIGHBOUR: 'it returns false'. Refute it at one input. -/
def fnExactIsWithinWrong : ChangeSpec := { name := "fnExactIsWithin", fn := fun _ => fun
  | [d1, d2, d3, d4] => { results := [.lit (.bool false)], args := [d1, d2, d3, d4] }
  | _ => none }
def FnExactIsWithinWrongFalsely : Prop := fnExactIsWithinRow.holds Try.pinned (OpenSpec.ofChange fnExactIsWithinWrong)

/-- 'laws.FnExactReachOf': WHATEVER THE INPUT: true; the input reads as it did. -/
def fnExactReachOfSpec : ChangeSpec := { name := "fnExactReachOf", fn := fun _ => fun
  | [d1, d2] => { results := [.lit (.bool true)], args := [d1, d2] }
  | _ => none }
def fnExactReachOfRow : OpenClaim := { program := "ytobejeiffgehfaa", sum := "3e5a842a18eb712cb4e25fd0ebe1c52268086a973f251a606b2ddbe93869abc3", func := "loop.example/g01242/laws.FnExactReachOf", spec := "fnExactReachOf", plainKeys := false, apart := false }
def FnExactReachOfSaid : Prop := fnExactReachOfRow.holds Try.pinned (OpenSpec.ofChange fnExactReachOfSpec)

/-- ITS FALSE NEIGHBOUR: 'it returns false'. Refute it at one input. -/
def fnExactReachOfWrong : ChangeSpec := { name := "fnExactReachOf", fn := fun _ => fun
  | [d1, d2] => { results := [.lit (.bool false)], args := [d1, d2] }
  | _ => none }
def FnExactReachOfWrongFalsely : Prop := fnExactReachOfRow.holds Try.pinned (OpenSpec.ofChange fnExactReachOfWrong)

/-- 'laws.FnExactJoinTerms': WHATEVER THE INPUT: true; the input reads as it did. -/
def fnExactJoinTermsSpec : ChangeSpec := { name := "fnExactJoinTerms", fn := fun _ => fun
  | [d1, d2] => { results := [.lit (.bool true)], args := [d1, d2] }
  | _ => none }
def fnExactJoinTermsRow : OpenClaim := { program := "ytobejeiffgehfaa", sum := "3e5a842a18eb712cb4e25fd0ebe1c52268086a973f251a606b2ddbe93869abc3", func := "loop.example/g01242/laws.FnExactJoinTerms", spec := "fnExactJoinTerms", unfollowed := true, recurses := true, plainKeys := false, apart := false }
def FnExactJoinTermsSaid : Prop := fnExactJoinTermsRow.holds Try.pinned (OpenSpec.ofChange fnExactJoinTermsSpec)

/-- ITS FALSE NEIGHBOUR: 'it returns false'. Refute it at one input. -/
def fnExactJoinTermsWrong : ChangeSpec := { name := "fnExactJoinTerms", fn := fun _ => fun
  | [d1, d2] => { results := [.lit (.bool false)], args := [d1, d2] }
  | _ => none }
def FnExactJoinTermsWrongFalsely : Prop := fnExactJoinTermsRow.holds Try.pinned (OpenSpec.ofChange fnExactJoinTermsWrong)

/-- 'laws.FnExactShareTerm': WHATEVER THE INPUT: true; the input reads as it did. -/
def fnExactShareTermSpec : ChangeSpec := { name := "fnExactShareTerm", fn := fun _ => fun
  | [d] => { results := [.lit (.bool true)], args := [d] }
  | _ => none }
def fnExactShareTermRow : OpenClaim := { program := "ytobejeiffgehfaa", sum := "3e5a842a18eb712cb4e25fd0ebe1c52268086a973f251a606b2ddbe93869abc3", func := "loop.example/g01242/laws.FnExactShareTerm", spec := "fnExactShareTerm", unfollowed := true, recurses := true, plainKeys := false, apart := false }
def FnExactShareTermSaid : Prop := fnExactShareTermRow.holds Try.pinned (OpenSpec.ofChange fnExactShareTermSpec)

/-- ITS FALSE NEIGHBOUR: 'it returns false'. Refute it at one input. -/
def fnExactShareTermWrong : ChangeSpec := { name := "fnExactShareTerm", fn := fun _ => fun
  | [d] => { results := [.lit (.bool false)], args := [d] }
  | _ => none }
def FnExactShareTermWrongFalsely : Prop := fnExactShareTermRow.holds Try.pinned (OpenSpec.ofChange fnExactShareTermWrong)

/-- 'laws.FnExactPruneTerm': WHATEVER THE INPUT: true; the input reads as it did. -/
def fnExactPruneTermSpec : ChangeSpec := { name := "fnExactPruneTerm", fn := fun _ => fun
  | [d1, d2] => { results := [.lit (.bool true)], args := [d1, d2] }
  | _ => none }
def fnExactPruneTermRow : OpenClaim := { program := "ytobejeiffgehfaa", sum := "3e5a842a18eb712cb4e25fd0ebe1c52268086a973f251a606b2ddbe93869abc3", func := "loop.example/g01242/laws.FnExactPruneTerm", spec := "fnExactPruneTerm", unfollowed := true, recurses := true, plainKeys := false, apart := false }
def FnExactPruneTermSaid : Prop := fnExactPruneTermRow.holds Try.pinned (OpenSpec.ofChange fnExactPruneTermSpec)

/-- ITS FALSE NEIGHBOUR: 'it returns false'. Refute it at one input. -/
def fnExactPruneTermWrong : ChangeSpec := { name := "fnExactPruneTerm", fn := fun _ => fun
  | [d1, d2] => { results := [.lit (.bool false)], args := [d1, d2] }
  | _ => none }
def FnExactPruneTermWrongFalsely : Prop := fnExactPruneTermRow.holds Try.pinned (OpenSpec.ofChange fnExactPruneTermWrong)

/- THE SECOND FORM. 'bulk': how many values and letters a reading holds, each counted each time it is reached (what is shared counts as often as it is met; a slice's spare places count too). A statement '..UptoSaid' is the law's where the arguments, and the package variables that the reading takes, are together of bulk at most 1048576: NARROWER than '..Said'. Prove '..Said' where nothing that the law and all that it calls make is longer than what came in: it says more and counts as full. Else prove '..UptoSaid'. A law counts once. -/
mutual
def uptoBulk {H : Type} : DataW H → Nat
  | .lit (.string bytes) => bytes.length + 1
  | .lit _ => 1
  | .nil => 1
  | .ptr d => uptoBulk d + 1
  | .slice elems spare => uptoBulkAll elems + uptoBulkAll spare + 1
  | .agg parts => uptoBulkAll parts + 1
  | .iface _ d => uptoBulk d + 1
  | .map entries => uptoBulkEntries entries + 1
  | .held _ => 1
def uptoBulkAll {H : Type} : List (DataW H) → Nat
  | [] => 0
  | d :: r => uptoBulk d + uptoBulkAll r
def uptoBulkEntries {H : Type} : List (Lit × DataW H) → Nat
  | [] => 0
  | x :: r => uptoBulkEntry x + uptoBulkEntries r
def uptoBulkEntry {H : Type} : Lit × DataW H → Nat
  | (.string bytes, d) => bytes.length + uptoBulk d + 1
  | (_, d) => uptoBulk d + 1
 end
def uptoSmall : (H : Type) → List (DataW H) → Bool := fun _ ds => decide (uptoBulkAll ds ≤ 1048576)
def OpenSpec.upto (s : _root_.Go.ChangeSpec) : _root_.Go.OpenSpec := { _root_.Go.OpenSpec.ofChange s with cond := some uptoSmall }

/-- 'laws.FnExactSameTerm', WHERE WHAT IT READS IS OF BULK AT MOST 1048576: true; the input reads as it did. -/
def fnExactSameTermUptoRow : OpenClaim := { program := "ytobejeiffgehfaa", sum := "3e5a842a18eb712cb4e25fd0ebe1c52268086a973f251a606b2ddbe93869abc3", func := "loop.example/g01242/laws.FnExactSameTerm", spec := "fnExactSameTerm", plainKeys := false, apart := false, narrowed := true }
def FnExactSameTermUptoSaid : Prop := fnExactSameTermUptoRow.holds Try.pinned (OpenSpec.upto fnExactSameTermSpec)

/-- 'laws.FnExactValidTerm', WHERE WHAT IT READS IS OF BULK AT MOST 1048576: true; the input reads as it did. -/
def fnExactValidTermUptoRow : OpenClaim := { program := "ytobejeiffgehfaa", sum := "3e5a842a18eb712cb4e25fd0ebe1c52268086a973f251a606b2ddbe93869abc3", func := "loop.example/g01242/laws.FnExactValidTerm", spec := "fnExactValidTerm", plainKeys := false, apart := false, narrowed := true }
def FnExactValidTermUptoSaid : Prop := fnExactValidTermUptoRow.holds Try.pinned (OpenSpec.upto fnExactValidTermSpec)

/-- 'laws.FnExactValueOfDigits', WHERE WHAT IT READS IS OF BULK AT MOST 1048576: true; the input reads as it did. -/
def fnExactValueOfDigitsUptoRow : OpenClaim := { program := "ytobejeiffgehfaa", sum := "3e5a842a18eb712cb4e25fd0ebe1c52268086a973f251a606b2ddbe93869abc3", func := "loop.example/g01242/laws.FnExactValueOfDigits", spec := "fnExactValueOfDigits", unfollowed := true, recurses := true, plainKeys := false, apart := false, narrowed := true }
def FnExactValueOfDigitsUptoSaid : Prop := fnExactValueOfDigitsUptoRow.holds Try.pinned (OpenSpec.upto fnExactValueOfDigitsSpec)

/-- 'laws.FnExactIsWithin', WHERE WHAT IT READS IS OF BULK AT MOST 1048576: true; the input reads as it did. -/
def fnExactIsWithinUptoRow : OpenClaim := { program := "ytobejeiffgehfaa", sum := "3e5a842a18eb712cb4e25fd0ebe1c52268086a973f251a606b2ddbe93869abc3", func := "loop.example/g01242/laws.FnExactIsWithin", spec := "fnExactIsWithin", plainKeys := false, apart := false, narrowed := true }
def FnExactIsWithinUptoSaid : Prop := fnExactIsWithinUptoRow.holds Try.pinned (OpenSpec.upto fnExactIsWithinSpec)

/-- 'laws.FnExactReachOf', WHERE WHAT IT READS IS OF BULK AT MOST 1048576: true; the input reads as it did. -/
def fnExactReachOfUptoRow : OpenClaim := { program := "ytobejeiffgehfaa", sum := "3e5a842a18eb712cb4e25fd0ebe1c52268086a973f251a606b2ddbe93869abc3", func := "loop.example/g01242/laws.FnExactReachOf", spec := "fnExactReachOf", plainKeys := false, apart := false, narrowed := true }
def FnExactReachOfUptoSaid : Prop := fnExactReachOfUptoRow.holds Try.pinned (OpenSpec.upto fnExactReachOfSpec)

/-- 'laws.FnExactJoinTerms', WHERE WHAT IT READS IS OF BULK AT MOST 1048576: true; the input reads as it did. -/
def fnExactJoinTermsUptoRow : OpenClaim := { program := "ytobejeiffgehfaa", sum := "3e5a842a18eb712cb4e25fd0ebe1c52268086a973f251a606b2ddbe93869abc3", func := "loop.example/g01242/laws.FnExactJoinTerms", spec := "fnExactJoinTerms", unfollowed := true, recurses := true, plainKeys := false, apart := false, narrowed := true }
def FnExactJoinTermsUptoSaid : Prop := fnExactJoinTermsUptoRow.holds Try.pinned (OpenSpec.upto fnExactJoinTermsSpec)

/-- 'laws.FnExactShareTerm', WHERE WHAT IT READS IS OF BULK AT MOST 1048576: true; the input reads as it did. -/
def fnExactShareTermUptoRow : OpenClaim := { program := "ytobejeiffgehfaa", sum := "3e5a842a18eb712cb4e25fd0ebe1c52268086a973f251a606b2ddbe93869abc3", func := "loop.example/g01242/laws.FnExactShareTerm", spec := "fnExactShareTerm", unfollowed := true, recurses := true, plainKeys := false, apart := false, narrowed := true }
def FnExactShareTermUptoSaid : Prop := fnExactShareTermUptoRow.holds Try.pinned (OpenSpec.upto fnExactShareTermSpec)

/-- 'laws.FnExactPruneTerm', WHERE WHAT IT READS IS OF BULK AT MOST 1048576: true; the input reads as it did. -/
def fnExactPruneTermUptoRow : OpenClaim := { program := "ytobejeiffgehfaa", sum := "3e5a842a18eb712cb4e25fd0ebe1c52268086a973f251a606b2ddbe93869abc3", func := "loop.example/g01242/laws.FnExactPruneTerm", spec := "fnExactPruneTerm", unfollowed := true, recurses := true, plainKeys := false, apart := false, narrowed := true }
def FnExactPruneTermUptoSaid : Prop := fnExactPruneTermUptoRow.holds Try.pinned (OpenSpec.upto fnExactPruneTermSpec)

end Rows
end Go.Proofs.Ytobejeiffgehfaa
