/- Plain laws: small whole numbers as wides; products. Our own work. -/
import Derived.Test.YtlmmgjngihlpeaaDoorZedA
import Derived.Test.YtlmmgjngihlpeaaDoorBase
namespace Go.Proofs.YtlmmgjngihlpeaaDoor.Sx
open Go
set_option linter.unusedVariables false
set_option linter.unusedSimpArgs false
set_option maxRecDepth 100000
variable {α:Type} {n:Nat}
end Go.Proofs.YtlmmgjngihlpeaaDoor.Sx
