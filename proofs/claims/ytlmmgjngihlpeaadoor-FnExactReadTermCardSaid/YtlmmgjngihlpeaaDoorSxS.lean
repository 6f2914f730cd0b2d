/- The seat's closed facts. Printed by our own sx.py. -/
import Derived.Test.YtlmmgjngihlpeaaDoorRows
import Derived.Test.YtlmmgjngihlpeaaDoorSxR
namespace Go.Proofs.YtlmmgjngihlpeaaDoor.Sx
open Go
set_option maxRecDepth 100000
def ioA : List Char := [104, 97, 114, 110, 101, 115, 115].map Char.ofNat
def ioB : List Char := [49, 98, 52, 52, 55, 56, 56, 49, 53, 51, 56, 53, 54, 50, 48, 98, 102, 100, 51, 51, 49, 102, 48, 53, 100, 52, 48, 53, 52, 48, 102, 50, 56, 50, 55, 99, 57, 51, 102, 52, 101, 50, 101, 51, 54, 48, 52, 56, 50, 98, 99, 98, 102, 53, 55, 48, 55, 102, 55, 49, 48, 56, 57, 50].map Char.ofNat
def ioD : List Char := [97, 116, 32, 108, 111, 111, 112, 46, 101, 120, 97, 109, 112, 108, 101, 47, 103, 48, 49, 50, 52, 50, 47, 108, 97, 119, 115, 46, 70, 110, 69, 120, 97, 99, 116, 84, 101, 114, 109, 84, 101, 120, 116, 32, 108, 111, 111, 112, 46, 101, 120, 97, 109, 112, 108, 101, 47, 103, 48, 49, 50, 52, 50, 47, 108, 97, 119, 115, 46, 70, 110, 69, 120, 97, 99, 116, 87, 105, 100, 101, 84, 101, 120, 116, 32, 108, 111, 111, 112, 46, 101, 120, 97, 109, 112, 108, 101, 47, 103, 48, 49, 50, 52, 50, 47, 108, 97, 119, 115, 46, 70, 110, 87, 105, 100, 101, 115, 32, 108, 111, 111, 112, 46, 101, 120, 97, 109, 112, 108, 101, 47, 103, 48, 49, 50, 52, 50, 47, 108, 97, 119, 115, 46, 70, 110, 69, 120, 97, 99, 116, 82, 101, 97, 100, 84, 101, 114, 109].map Char.ofNat
theorem io : Go.Proofs.Tryd.prog.initOrder = String.ofList (ioA ++ Char.ofNat 32 :: (ioB ++ Char.ofNat 32 :: (cutWord ++ Char.ofNat 32 :: ioD))) := by kernel_rfl
theorem behind_ : ∃ X, behindMainWord (wordsSigns Go.Proofs.Tryd.prog.initOrder.toList) = cutWord :: X := behind_of io (by kernel_rfl) (by kernel_rfl) (by kernel_rfl) (by kernel_rfl)
theorem make_ : Go.Proofs.Tryd.prog.make = some .cut := make_of behind_
theorem liftsFinal_ : Go.Proofs.Tryd.prog.liftsFinal = false := liftsFinal_of behind_
theorem laysLater_ : Go.Proofs.Tryd.prog.laysLater = false := by kernel_rfl
theorem bearsReflect_ : Go.Proofs.Tryd.prog.bearsReflect = false := by kernel_rfl
theorem doorFits_ : Go.Proofs.Tryd.prog.doorFits [] = true := by kernel_rfl
theorem mayEnter_ : Go.Proofs.Tryd.prog.mayEnter = true := mayEnter_of behind_ laysLater_ bearsReflect_ doorFits_
theorem laidOut_ : laidOutB Go.Proofs.Tryd.prog = true := by kernel_rfl
theorem mapsRowed_ : mapsRowed Go.Proofs.Tryd.prog = true := by kernel_rfl
theorem heard_ : Go.Proofs.Tryd.prog.stopsHeard = true := by kernel_rfl
theorem own_ : ownKnob Go.Proofs.Tryd.prog.godebug = none := by kernel_rfl
end Go.Proofs.YtlmmgjngihlpeaaDoor.Sx
