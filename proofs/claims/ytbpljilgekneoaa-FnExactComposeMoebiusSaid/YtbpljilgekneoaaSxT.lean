/- The program's types. Printed by our own sx.py. -/
import Derived.Test.YtbpljilgekneoaaProg
import Derived.Test.YtbpljilgekneoaaSxO
namespace Go.Proofs.Ytbpljilgekneoaa.Sx
open Go
set_option linter.unusedVariables false
set_option maxRecDepth 100000
def tab : Tab where
  agg := [(23, 4), (25, 4), (29, 2), (31, 2)]
  sca := [2]
  zero := [(2, [(.one (.int .i64 (0 : Int)))]), (25, [(.one (.int .i64 (0 : Int))), (.one (.int .i64 (0 : Int))), (.one (.int .i64 (0 : Int))), (.one (.int .i64 (0 : Int)))]), (31, [(.one (.int .i64 (0 : Int))), (.one (.int .i64 (0 : Int)))])]
  fld := [(23, [(0, 1), (1, 1), (2, 1), (3, 1)]), (25, [(0, 1), (1, 1), (2, 1), (3, 1)]), (29, [(0, 1), (1, 1)]), (31, [(0, 1), (1, 1)])]
  arr := []
  sli := [(73, 2, 1)]
  knd := []
  str := []
  bol := [4]
  eqt := []
  aix := []
theorem tabBOk : tabB Go.Proofs.Try.prog tab = true := by kernel_rfl
theorem tabOk : TabOk Go.Proofs.Try.prog tab := tabOk_of tabBOk
theorem mixed : Go.Proofs.Try.prog.follows .mixedOrders = true := by kernel_rfl
end Go.Proofs.Ytbpljilgekneoaa.Sx
