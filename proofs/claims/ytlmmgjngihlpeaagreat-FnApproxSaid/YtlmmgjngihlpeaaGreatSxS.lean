/- The seat's closed facts. Printed by our own sx.py. -/
import Derived.Test.YtlmmgjngihlpeaaGreatRows
import Derived.Test.YtlmmgjngihlpeaaGreatSxR
namespace Go.Proofs.YtlmmgjngihlpeaaGreat.Sx
open Go
set_option maxRecDepth 100000
theorem glob0{W:World}:GlobOk W []:=fun p (hp:p∈([]:List (Nat×IntKind×List Int)))=>nomatch hp
def ioA:List Char:=[104,97,114,110,101,115,115].map Char.ofNat
def ioB:List Char:=[56,51,52,55,97,55,57,49,102,50,102,49,98,97,56,50,52,101,48,99,57,49,99,51,100,99,99,49,99,101,54,53,98,101,56,102,55,101,53,57,101,52,57,50,56,54,49,53,51,57,54,49,97,56,54,49,51,48,100,97,48,98,50,97].map Char.ofNat
def ioD:List Char:=[97,116,32,108,111,111,112,46,101,120,97,109,112,108,101,47,103,48,49,50,52,50,47,108,97,119,115,46,70,110,65,112,112,114,111,120,32,108,111,111,112,46,101,120,97,109,112,108,101,47,103,48,49,50,52,50,47,108,97,119,115,46,70,110,69,120,97,99,116,84,101,114,109,68,105,103,105,116,115].map Char.ofNat
theorem io:Go.Proofs.Tryz.prog.initOrder=String.ofList (ioA++Char.ofNat 32::(ioB++Char.ofNat 32::(cutWord++Char.ofNat 32::ioD))):=by kernel_rfl
theorem behind_:∃X,behindMainWord (wordsSigns Go.Proofs.Tryz.prog.initOrder.toList)=cutWord::X:=behind_of io (by kernel_rfl) (by kernel_rfl) (by kernel_rfl) (by kernel_rfl)
theorem make_:Go.Proofs.Tryz.prog.make=some .cut:=make_of behind_
theorem liftsFinal_:Go.Proofs.Tryz.prog.liftsFinal=false:=liftsFinal_of behind_
theorem laysLater_:Go.Proofs.Tryz.prog.laysLater=false:=by kernel_rfl
theorem bearsReflect_:Go.Proofs.Tryz.prog.bearsReflect=false:=by kernel_rfl
theorem doorFits_:Go.Proofs.Tryz.prog.doorFits []=true:=by kernel_rfl
theorem mayEnter_:Go.Proofs.Tryz.prog.mayEnter=true:=mayEnter_of behind_ laysLater_ bearsReflect_ doorFits_
theorem laidOut_:laidOutB Go.Proofs.Tryz.prog=true:=by kernel_rfl
theorem mapsRowed_:mapsRowed Go.Proofs.Tryz.prog=true:=by kernel_rfl
theorem heard_:Go.Proofs.Tryz.prog.stopsHeard=true:=by kernel_rfl
theorem own_:ownKnob Go.Proofs.Tryz.prog.godebug=none:=by kernel_rfl
end Go.Proofs.YtlmmgjngihlpeaaGreat.Sx
