/- The seat's closed facts. Printed by our own sx.py. -/
import Derived.Test.YtlmmgjngihlpeaaGreatDoorRows
import Derived.Test.YtlmmgjngihlpeaaGreatDoorSxR
namespace Go.Proofs.YtlmmgjngihlpeaaGreatDoor.Sx
open Go
set_option maxRecDepth 100000
def ioA:List Char:=[104,97,114,110,101,115,115].map Char.ofNat
def ioB:List Char:=[100,51,57,97,98,51,102,101,52,57,100,102,102,98,102,50,101,98,52,53,54,97,101,54,53,101,50,55,52,50,50,52,100,102,102,99,99,97,102,53,54,101,50,49,101,50,54,102,54,55,49,56,49,49,51,48,53,53,102,56,101,99,98,57].map Char.ofNat
def ioD:List Char:=[97,116,32,108,111,111,112,46,101,120,97,109,112,108,101,47,103,48,49,50,52,50,47,108,97,119,115,46,70,110,83,104,97,114,101,100,32,108,111,111,112,46,101,120,97,109,112,108,101,47,103,48,49,50,52,50,47,108,97,119,115,46,70,110,69,120,97,99,116,68,101,99,105,109,97,108,79,102].map Char.ofNat
theorem io:Go.Proofs.Tryz.prog.initOrder=String.ofList (ioA++Char.ofNat 32::(ioB++Char.ofNat 32::(cutWord++Char.ofNat 32::ioD))):=by kernel_rfl
theorem behind_:∃X,behindMainWord (wordsSigns Go.Proofs.Tryz.prog.initOrder.toList)=cutWord::X:=behind_of io (by kernel_rfl) (by kernel_rfl) (by kernel_rfl) (by kernel_rfl)
theorem make_:Go.Proofs.Tryz.prog.make=some .cut:=make_of behind_
theorem liftsFinal_:Go.Proofs.Tryz.prog.liftsFinal=false:=liftsFinal_of behind_
theorem laysLater_:Go.Proofs.Tryz.prog.laysLater=false:=by kernel_rfl
theorem bearsReflect_:Go.Proofs.Tryz.prog.bearsReflect=false:=by kernel_rfl
theorem doorFits_:Go.Proofs.Tryz.prog.doorFits []=true:=by kernel_rfl
theorem mayEnter_:Go.Proofs.Tryz.prog.mayEnter=true:=mayEnter_of behind_ laysLater_ bearsReflect_ doorFits_
theorem laidOut_:laidOutB Go.Proofs.Tryz.prog=true:=by kernel_rfl
theorem mapsRowed_:mapsRowed Go.Proofs.Tryz.prog=true:=by kernel_rfl
theorem heard_:Go.Proofs.Tryz.prog.stopsHeard=true:=by kernel_rfl
theorem own_:ownKnob Go.Proofs.Tryz.prog.godebug=none:=by kernel_rfl
end Go.Proofs.YtlmmgjngihlpeaaGreatDoor.Sx
