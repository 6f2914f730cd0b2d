import Derived.Test.YtlmmgjngihlpeaaDoorPureQ
/- Plain laws: ShiftNear. Our own work. -/
namespace Go.Proofs.YtlmmgjngihlpeaaDoor.Sx
open Go
set_option linter.unusedVariables false
set_option linter.unusedSimpArgs false
set_option maxRecDepth 100000
end Go.Proofs.YtlmmgjngihlpeaaDoor.Sx
/- Plain laws: RootWide. Our own work. -/
namespace Go.Proofs.YtlmmgjngihlpeaaDoor.Sx
open Go
set_option linter.unusedVariables false
set_option linter.unusedSimpArgs false
set_option maxRecDepth 100000
end Go.Proofs.YtlmmgjngihlpeaaDoor.Sx
/- Plain laws: ReadWide. Our own work. -/
namespace Go.Proofs.YtlmmgjngihlpeaaDoor.Sx
open Go
set_option linter.unusedVariables false
set_option linter.unusedSimpArgs false
set_option maxRecDepth 100000
end Go.Proofs.YtlmmgjngihlpeaaDoor.Sx
/- Plain laws: ReadWide, the whole. Our own work. -/
namespace Go.Proofs.YtlmmgjngihlpeaaDoor.Sx
open Go
set_option linter.unusedVariables false
set_option linter.unusedSimpArgs false
set_option maxRecDepth 100000
end Go.Proofs.YtlmmgjngihlpeaaDoor.Sx
