/- The seat's closed facts. Printed by our own sx.py. -/
import Derived.Test.YtobejeiffgehfaaRows
import Derived.Test.YtobejeiffgehfaaSxR
namespace Go.Proofs.Ytobejeiffgehfaa.Sx
open Go
set_option maxRecDepth 100000
def ioA : List Char := [104, 97, 114, 110, 101, 115, 115].map Char.ofNat
def ioB : List Char := [53, 51, 102, 51, 101, 99, 52, 57, 97, 53, 50, 97, 98, 57, 101, 49, 55, 102, 55, 57, 99, 97, 53, 49, 52, 55, 50, 51, 48, 57, 97, 102, 54, 100, 101, 101, 98, 50, 54, 49, 102, 102, 102, 57, 98, 55, 50, 52, 55, 51, 52, 52, 54, 50, 57, 52, 51, 100, 48, 49, 51, 51, 48, 53].map Char.ofNat
def ioD : List Char := [97, 116, 32, 108, 111, 111, 112, 46, 101, 120, 97, 109, 112, 108, 101, 47, 103, 48, 49, 50, 52, 50, 47, 108, 97, 119, 115, 46, 70, 110, 69, 120, 97, 99, 116, 83, 97, 109, 101, 84, 101, 114, 109, 32, 108, 111, 111, 112, 46, 101, 120, 97, 109, 112, 108, 101, 47, 103, 48, 49, 50, 52, 50, 47, 108, 97, 119, 115, 46, 70, 110, 69, 120, 97, 99, 116, 86, 97, 108, 105, 100, 84, 101, 114, 109, 32, 108, 111, 111, 112, 46, 101, 120, 97, 109, 112, 108, 101, 47, 103, 48, 49, 50, 52, 50, 47, 108, 97, 119, 115, 46, 70, 110, 69, 120, 97, 99, 116, 86, 97, 108, 117, 101, 79, 102, 68, 105, 103, 105, 116, 115, 32, 108, 111, 111, 112, 46, 101, 120, 97, 109, 112, 108, 101, 47, 103, 48, 49, 50, 52, 50, 47, 108, 97, 119, 115, 46, 70, 110, 69, 120, 97, 99, 116, 73, 115, 87, 105, 116, 104, 105, 110, 32, 108, 111, 111, 112, 46, 101, 120, 97, 109, 112, 108, 101, 47, 103, 48, 49, 50, 52, 50, 47, 108, 97, 119, 115, 46, 70, 110, 69, 120, 97, 99, 116, 82, 101, 97, 99, 104, 79, 102, 32, 108, 111, 111, 112, 46, 101, 120, 97, 109, 112, 108, 101, 47, 103, 48, 49, 50, 52, 50, 47, 108, 97, 119, 115, 46, 70, 110, 69, 120, 97, 99, 116, 74, 111, 105, 110, 84, 101, 114, 109, 115, 32, 108, 111, 111, 112, 46, 101, 120, 97, 109, 112, 108, 101, 47, 103, 48, 49, 50, 52, 50, 47, 108, 97, 119, 115, 46, 70, 110, 69, 120, 97, 99, 116, 83, 104, 97, 114, 101, 84, 101, 114, 109, 32, 108, 111, 111, 112, 46, 101, 120, 97, 109, 112, 108, 101, 47, 103, 48, 49, 50, 52, 50, 47, 108, 97, 119, 115, 46, 70, 110, 69, 120, 97, 99, 116, 80, 114, 117, 110, 101, 84, 101, 114, 109].map Char.ofNat
theorem io : Go.Proofs.Try.prog.initOrder = String.ofList (ioA ++ Char.ofNat 32 :: (ioB ++ Char.ofNat 32 :: (cutWord ++ Char.ofNat 32 :: ioD))) := by kernel_rfl
theorem behind_ : ∃ X, behindMainWord (wordsSigns Go.Proofs.Try.prog.initOrder.toList) = cutWord :: X := behind_of io (by kernel_rfl) (by kernel_rfl) (by kernel_rfl) (by kernel_rfl)
theorem make_ : Go.Proofs.Try.prog.make = some .cut := make_of behind_
theorem liftsFinal_ : Go.Proofs.Try.prog.liftsFinal = false := liftsFinal_of behind_
theorem laysLater_ : Go.Proofs.Try.prog.laysLater = false := by kernel_rfl
theorem bearsReflect_ : Go.Proofs.Try.prog.bearsReflect = false := by kernel_rfl
theorem doorFits_ : Go.Proofs.Try.prog.doorFits [] = true := by kernel_rfl
theorem mayEnter_ : Go.Proofs.Try.prog.mayEnter = true := mayEnter_of behind_ laysLater_ bearsReflect_ doorFits_
theorem laidOut_ : laidOutB Go.Proofs.Try.prog = true := by kernel_rfl
theorem mapsRowed_ : mapsRowed Go.Proofs.Try.prog = true := by kernel_rfl
theorem heard_ : Go.Proofs.Try.prog.stopsHeard = true := by kernel_rfl
theorem own_ : ownKnob Go.Proofs.Try.prog.godebug = none := by kernel_rfl
end Go.Proofs.Ytobejeiffgehfaa.Sx
