/- The program's types. Printed by our own sx.py. -/
import Derived.Test.YtobejeiffgehfaaProg
import Derived.Test.YtobejeiffgehfaaSxO
namespace Go.Proofs.Ytobejeiffgehfaa.Sx
open Go
set_option linter.unusedVariables false
set_option maxRecDepth 100000
def tab : Tab where
  agg := [(61, 5), (63, 5)]
  sca := [2, 4, 25, 46, 58, 59, 107]
  zero := [(2, [(.one (.int .i64 (0 : Int)))]), (4, [(.one (.bool false))]), (46, [(.one .nils)]), (59, [(.one (.int .i16 (0 : Int)))]), (61, [(.one (.int .i8 (0 : Int))), (.one (.int .i16 (0 : Int))), (.one (.int .i16 (0 : Int))), (.one (.int .i64 (0 : Int))), (.one (.int .i64 (0 : Int)))]), (107, [(.one .nils)]), (137, [(.one (.bool false)), (.one .nils), (.one .unk), (.one .nils), (.one (.int .i64 (0 : Int)))])]
  fld := [(61, [(0, 1), (1, 1), (2, 1), (3, 1), (4, 1)]), (63, [(0, 1), (1, 1), (2, 1), (3, 1), (4, 1)]), (137, [(0, 1), (1, 1), (2, 1), (3, 1), (4, 1)])]
  arr := []
  sli := [(22, 63, 5), (25, 61, 5), (46, 2, 1), (99, 4, 1), (107, 59, 1)]
  knd := [(2, .i64), (3, .i64), (58, .i8), (59, .i16)]
  str := []
  bol := []
  eqt := [(61, [(.int .i8), (.int .i16), (.int .i16), (.int .i64), (.int .i64)])]
  aix := []
theorem tabBOk : tabB Go.Proofs.Try.prog tab = true := by kernel_rfl
theorem tabOk : TabOk Go.Proofs.Try.prog tab := tabOk_of tabBOk
theorem mixed : Go.Proofs.Try.prog.follows .mixedOrders = true := by kernel_rfl
end Go.Proofs.Ytobejeiffgehfaa.Sx
