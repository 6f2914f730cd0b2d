import Derived.Test.YtlmmgjngihlpeaaDoorPureY
import Derived.Test.YtlmmgjngihlpeaaDoorPureU
/- Plain laws: division (impl), the whole. Our own work. -/
namespace Go.Proofs.YtlmmgjngihlpeaaDoor.Sx
open Go
set_option linter.unusedVariables false
set_option linter.unusedSimpArgs false
set_option maxRecDepth 100000
end Go.Proofs.YtlmmgjngihlpeaaDoor.Sx
/- Plain laws: CommonWide, DivWides, DivNear. Our own work. -/
namespace Go.Proofs.YtlmmgjngihlpeaaDoor.Sx
open Go
set_option linter.unusedVariables false
set_option linter.unusedSimpArgs false
set_option maxRecDepth 100000
section
variable {α:Type} {m:Nat} {a b:Nat}
theorem g85M(hm:240≤m)(ha:a<W192)(hb0:0<b)(hb:b<W192)(k:List Int→List Int→Option α):g85 m (limbs 6 a) (limbs 6 b) k=k (limbs 6 (a/b)) (limbs 6 (a%b)):=by
 obtain⟨n,rfl⟩:∃n,m=n+40:=⟨m-40,by omega⟩
 exact g85L n (by omega) ha hb0 hb k
end
end Go.Proofs.YtlmmgjngihlpeaaDoor.Sx
/- Plain laws: DivNear. Our own work. -/
namespace Go.Proofs.YtlmmgjngihlpeaaDoor.Sx
open Go
set_option linter.unusedVariables false
set_option linter.unusedSimpArgs false
set_option maxRecDepth 100000
end Go.Proofs.YtlmmgjngihlpeaaDoor.Sx
