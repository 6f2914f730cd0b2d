/- The program's types. Printed by our own sx.py. -/
import Derived.Test.YtbpljilgekneoaaProg
import Derived.Test.YtbpljilgekneoaaSxO
namespace Go.Proofs.Ytbpljilgekneoaa.Sx
open Go
set_option linter.unusedVariables false
set_option maxRecDepth 100000
def tab : Tab where
  agg := [(51, 2), (54, 2)]
  sca := [5, 49, 60]
  zero := [(5, [(.one (.int .u8 (0 : Int)))]), (54, [(.one .nils), (.one .nils)]), (60, [(.one (.int .i8 (0 : Int)))])]
  fld := [(51, [(0, 1), (1, 1)]), (54, [(0, 1), (1, 1)])]
  arr := []
  sli := [(49, 60, 1), (98, 5, 1)]
  knd := [(3, .i64), (5, .u8), (60, .i8)]
  str := [9]
  bol := [4]
  eqt := []
  aix := []
theorem tabBOk : tabB Go.Proofs.Try.prog tab = true := by kernel_rfl
theorem tabOk : TabOk Go.Proofs.Try.prog tab := tabOk_of tabBOk
theorem mixed : Go.Proofs.Try.prog.follows .mixedOrders = true := by kernel_rfl
end Go.Proofs.Ytbpljilgekneoaa.Sx
