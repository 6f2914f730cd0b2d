import Derived.Test.YtlmmgjngihlpeaaDoorPureY
import Derived.Test.YtlmmgjngihlpeaaDoorPureU
/- Plain laws: division (impl), the whole. Our own work. -/
namespace Go.Proofs.YtlmmgjngihlpeaaDoor.Sx
open Go
set_option linter.unusedVariables false
set_option linter.unusedSimpArgs false
set_option maxRecDepth 100000
end Go.Proofs.YtlmmgjngihlpeaaDoor.Sx
/- Plain laws: CommonWide, DivWides, DivNear. Our own work. -/
namespace Go.Proofs.YtlmmgjngihlpeaaDoor.Sx
open Go
set_option linter.unusedVariables false
set_option linter.unusedSimpArgs false
set_option maxRecDepth 100000
section
variable {α:Type} {m:Nat} {a b:Nat}
end
def ups(s t:Bool)(a b:Nat):Bool:=(!(s==t))&& !(decide (a%b=0))
def dQ(s t:Bool)(a b:Nat):Nat:=cond (ups s t a b) (a/b+1) (a/b)
def dR(s t:Bool)(a b:Nat):Nat:=cond (ups s t a b) (b-a%b) (a%b)
theorem g61L{α:Type}(m:Nat)(t:Bool){b:Nat}(hb:b<W192)(k:Int→Option α):g61 m t (limbs 6 b) k=k (cond t (-1) (cond (decide (b=0)) 0 1)):=by
 simp only[g61,g61b,eqLI_zero hb]
 cases t<;>cases decide (b=0)<;>rfl
end Go.Proofs.YtlmmgjngihlpeaaDoor.Sx
/- Plain laws: DivNear. Our own work. -/
namespace Go.Proofs.YtlmmgjngihlpeaaDoor.Sx
open Go
set_option linter.unusedVariables false
set_option linter.unusedSimpArgs false
set_option maxRecDepth 100000
end Go.Proofs.YtlmmgjngihlpeaaDoor.Sx
