import Derived.Test.YtlmmgjngihlpeaaDoorPureZb
import Derived.Test.YtlmmgjngihlpeaaDoorSxU
import Derived.Test.YtlmmgjngihlpeaaDoorBase
namespace Go.Proofs.YtlmmgjngihlpeaaDoor.Sx
open Go
set_option linter.unusedVariables false
set_option linter.unusedSimpArgs false
set_option maxRecDepth 100000
def zs (z : Int) : Bool := decide (z < 0)
variable {α : Type} {n : Nat}
variable {α : Type} {n : Nat}
end Go.Proofs.YtlmmgjngihlpeaaDoor.Sx
