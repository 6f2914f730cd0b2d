/- The text ahead of BldTs. Printed by our own sx.py. -/
import Derived.Test.YtlmmgjngihlpeaaDoorSxV0
namespace Go.Proofs.YtlmmgjngihlpeaaDoor.Sx
open Go
set_option linter.unusedVariables false
set_option maxRecDepth 100000
end Go.Proofs.YtlmmgjngihlpeaaDoor.Sx
