/- FnExactConstants: the law on the program's constants answers true (it has no arguments). No condition. -/
import Derived.Test.YtkddpocobailgaaPFnExactConstantsx1
namespace Go.Proofs.Ytkddpocobailgaa.Pure
open Go.RowKit Go.Proofs.Ytkddpocobailgaa.PFnExactConstants Go.Proofs.YtkddpocobailgaaW.PrintWords Go.Proofs.YtkddpocobailgaaW.PrintLast

/-- YOURS: laws_FnExactConstants.f  = some true
What it reaches (each with k first where it has rounds; `.mono`: more rounds tell the same; `.l0`, ..: its loops, with `.mono_l`): laws_FnExactConstants.f -/
theorem FnExactConstants : laws_FnExactConstants.Pure := by
  rfl

end Go.Proofs.Ytkddpocobailgaa.Pure
