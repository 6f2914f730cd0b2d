/- The program's types. Printed by our own sx.py. -/
import Derived.Test.YtcccndkeaichcaaProg
import Derived.Test.YtcccndkeaichcaaSxO
namespace Go.Proofs.Ytcccndkeaichcaa.Sx
open Go
set_option linter.unusedVariables false
set_option maxRecDepth 100000
def tab : Tab where
  agg := [(23, 6), (25, 7), (27, 7), (57, 6), (62, 6), (68, 1), (104, 12)]
  sca := [4, 22]
  zero := [(23, [(.seq (.int .u32) 6 [0, 0, 0, 0, 0, 0])]), (27, [(.one (.bool false)), (.seq (.int .u32) 6 [0, 0, 0, 0, 0, 0])]), (57, [(.seq (.int .u32) 6 [0, 0, 0, 0, 0, 0])]), (62, [(.seq (.int .u32) 6 [0, 0, 0, 0, 0, 0])]), (68, [(.one (.bool false))]), (104, [(.seq (.int .u32) 12 [0, 0, 0, 0, 0, 0, 0, 0, 0, 0, 0, 0])]), (109, [(.seq (.int .u32) 7 [0, 0, 0, 0, 0, 0, 0])])]
  fld := [(25, [(0, 1), (1, 6)]), (27, [(0, 1), (1, 6)]), (68, [(0, 1)])]
  arr := [(23, 6, 1), (57, 6, 1), (62, 6, 1), (104, 12, 1), (109, 7, 1)]
  sli := [(110, 22, 1)]
  knd := [(2, .i64), (3, .i64), (5, .u8), (22, .u32), (54, .u64), (56, .u64)]
  str := [9]
  bol := [4]
  eqt := [(23, [(.int .u32), (.int .u32), (.int .u32), (.int .u32), (.int .u32), (.int .u32)]), (57, [(.int .u32), (.int .u32), (.int .u32), (.int .u32), (.int .u32), (.int .u32)]), (62, [(.int .u32), (.int .u32), (.int .u32), (.int .u32), (.int .u32), (.int .u32)])]
  aix := [(57, 6, 22)]
def strC0 : ByteArray := ⟨#[0, 1, 2, 2, 3, 3, 3, 3, 4, 4, 4, 4, 4, 4, 4, 4, 5, 5, 5, 5, 5, 5, 5, 5, 5, 5, 5, 5, 5, 5, 5, 5, 6, 6, 6, 6, 6, 6, 6, 6, 6, 6, 6, 6, 6, 6, 6, 6, 6, 6, 6, 6, 6, 6, 6, 6, 6, 6, 6, 6, 6, 6, 6, 6, 7, 7, 7, 7, 7, 7, 7, 7, 7, 7, 7, 7, 7, 7, 7, 7, 7, 7, 7, 7, 7, 7, 7, 7, 7, 7, 7, 7, 7, 7, 7, 7, 7, 7, 7, 7, 7, 7, 7, 7, 7, 7, 7, 7, 7, 7, 7, 7, 7, 7, 7, 7, 7, 7, 7, 7, 7, 7, 7, 7, 7, 7, 7, 7, 8, 8, 8, 8, 8, 8, 8, 8, 8, 8, 8, 8, 8, 8, 8, 8, 8, 8, 8, 8, 8, 8, 8, 8, 8, 8, 8, 8, 8, 8, 8, 8, 8, 8, 8, 8, 8, 8, 8, 8, 8, 8, 8, 8, 8, 8, 8, 8, 8, 8, 8, 8, 8, 8, 8, 8, 8, 8, 8, 8, 8, 8, 8, 8, 8, 8, 8, 8, 8, 8, 8, 8, 8, 8, 8, 8, 8, 8, 8, 8, 8, 8, 8, 8, 8, 8, 8, 8, 8, 8, 8, 8, 8, 8, 8, 8, 8, 8, 8, 8, 8, 8, 8, 8, 8, 8, 8, 8, 8, 8, 8, 8, 8, 8, 8, 8, 8, 8, 8, 8, 8, 8, 8, 8, 8, 8, 8, 8]⟩
theorem tabBOk : tabB Go.Proofs.Try.prog tab = true := by kernel_rfl
theorem tabOk : TabOk Go.Proofs.Try.prog tab := tabOk_of tabBOk
theorem mixed : Go.Proofs.Try.prog.follows .mixedOrders = true := by kernel_rfl
end Go.Proofs.Ytcccndkeaichcaa.Sx
