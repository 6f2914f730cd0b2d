/- The program's types. Printed by our own sx.py. -/
import Derived.Test.YtcccndkeaichcaaProg
import Derived.Test.YtcccndkeaichcaaSxO
namespace Go.Proofs.Ytcccndkeaichcaa.Sx
open Go
set_option linter.unusedVariables false
set_option maxRecDepth 100000
def tab : Tab where
  agg := [(23, 6), (25, 7), (27, 7)]
  sca := [4, 22]
  zero := [(23, [(.seq (.int .u32) 6 [0, 0, 0, 0, 0, 0])]), (27, [(.one (.bool false)), (.seq (.int .u32) 6 [0, 0, 0, 0, 0, 0])])]
  fld := [(25, [(0, 1), (1, 6)]), (27, [(0, 1), (1, 6)])]
  arr := [(23, 6, 1)]
  sli := []
  knd := []
  str := []
  bol := [4]
  eqt := [(23, [(.int .u32), (.int .u32), (.int .u32), (.int .u32), (.int .u32), (.int .u32)])]
theorem tabBOk : tabB Go.Proofs.Try.prog tab = true := by kernel_rfl
theorem tabOk : TabOk Go.Proofs.Try.prog tab := tabOk_of tabBOk
theorem mixed : Go.Proofs.Try.prog.follows .mixedOrders = true := by kernel_rfl
end Go.Proofs.Ytcccndkeaichcaa.Sx
