/- The seat's closed facts. Printed by our own sx.py. -/
import Derived.Test.YtlmmgjngihlpeaaRows
import Derived.Test.YtlmmgjngihlpeaaSxR
namespace Go.Proofs.Ytlmmgjngihlpeaa.Sx
open Go
set_option maxRecDepth 100000
def ioA:List Char:=[104,97,114,110,101,115,115].map Char.ofNat
def ioB:List Char:=[101,56,52,99,54,56,54,50,52,99,50,100,49,102,48,49,51,48,51,49,97,97,49,100,57,98,53,57,101,98,52,100,55,54,56,54,52,54,99,102,102,97,53,100,56,56,101,48,51,100,99,102,100,52,52,98,97,56,98,98,98,55,56,102].map Char.ofNat
def ioD:List Char:=[97,116,32,108,111,111,112,46,101,120,97,109,112,108,101,47,103,48,49,50,52,50,47,108,97,119,115,46,70,110,68,105,118,105,100,101,100,32,108,111,111,112,46,101,120,97,109,112,108,101,47,103,48,49,50,52,50,47,108,97,119,115,46,70,110,69,120,97,99,116,65,119,97,121,70,114,111,109,32,108,111,111,112,46,101,120,97,109,112,108,101,47,103,48,49,50,52,50,47,108,97,119,115,46,70,110,69,120,97,99,116,71,114,111,119,116,104,79,102,32,108,111,111,112,46,101,120,97,109,112,108,101,47,103,48,49,50,52,50,47,108,97,119,115,46,70,110,69,120,97,99,116,65,112,112,114,111,120,32,108,111,111,112,46,101,120,97,109,112,108,101,47,103,48,49,50,52,50,47,108,97,119,115,46,70,110,69,120,97,99,116,83,105,103,110,87,105,116,104,105,110,32,108,111,111,112,46,101,120,97,109,112,108,101,47,103,48,49,50,52,50,47,108,97,119,115,46,70,110,69,120,97,99,116,87,104,105,99,104,83,105,100,101,32,108,111,111,112,46,101,120,97,109,112,108,101,47,103,48,49,50,52,50,47,108,97,119,115,46,70,110,69,120,97,99,116,65,115,107,115,79,102].map Char.ofNat
theorem io:Go.Proofs.Try.prog.initOrder=String.ofList (ioA++Char.ofNat 32::(ioB++Char.ofNat 32::(cutWord++Char.ofNat 32::ioD))):=by kernel_rfl
theorem behind_:∃X,behindMainWord (wordsSigns Go.Proofs.Try.prog.initOrder.toList)=cutWord::X:=behind_of io (by kernel_rfl) (by kernel_rfl) (by kernel_rfl) (by kernel_rfl)
theorem make_:Go.Proofs.Try.prog.make=some .cut:=make_of behind_
theorem liftsFinal_:Go.Proofs.Try.prog.liftsFinal=false:=liftsFinal_of behind_
theorem laysLater_:Go.Proofs.Try.prog.laysLater=false:=by kernel_rfl
theorem bearsReflect_:Go.Proofs.Try.prog.bearsReflect=false:=by kernel_rfl
theorem doorFits_:Go.Proofs.Try.prog.doorFits []=true:=by kernel_rfl
theorem mayEnter_:Go.Proofs.Try.prog.mayEnter=true:=mayEnter_of behind_ laysLater_ bearsReflect_ doorFits_
theorem laidOut_:laidOutB Go.Proofs.Try.prog=true:=by kernel_rfl
theorem mapsRowed_:mapsRowed Go.Proofs.Try.prog=true:=by kernel_rfl
theorem heard_:Go.Proofs.Try.prog.stopsHeard=true:=by kernel_rfl
theorem own_:ownKnob Go.Proofs.Try.prog.godebug=none:=by kernel_rfl
end Go.Proofs.Ytlmmgjngihlpeaa.Sx
