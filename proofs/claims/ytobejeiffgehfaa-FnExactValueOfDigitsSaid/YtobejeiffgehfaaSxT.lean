/- The program's types. Printed by our own sx.py. -/
import Derived.Test.YtobejeiffgehfaaProg
import Derived.Test.YtobejeiffgehfaaSxO
namespace Go.Proofs.Ytobejeiffgehfaa.Sx
open Go
set_option linter.unusedVariables false
set_option maxRecDepth 100000
def tab : Tab where
  agg := [(31, 6), (33, 7), (35, 7), (77, 1), (88, 6), (116, 6)]
  sca := [4, 30, 58]
  zero := [(31, [(.seq (.int .u32) 6 [0, 0, 0, 0, 0, 0])]), (35, [(.one (.bool false)), (.seq (.int .u32) 6 [0, 0, 0, 0, 0, 0])]), (58, [(.one (.int .i8 (0 : Int)))]), (77, [(.one (.bool false))]), (88, [(.seq (.int .u32) 6 [0, 0, 0, 0, 0, 0])]), (116, [(.seq (.int .u32) 6 [0, 0, 0, 0, 0, 0])]), (129, [(.seq (.int .u32) 12 [0, 0, 0, 0, 0, 0, 0, 0, 0, 0, 0, 0])])]
  fld := [(33, [(0, 1), (1, 6)]), (35, [(0, 1), (1, 6)]), (77, [(0, 1)])]
  arr := [(31, 6, 1), (88, 6, 1), (116, 6, 1), (129, 12, 1)]
  sli := [(34, 58, 1), (130, 30, 1)]
  knd := [(2, .i64), (3, .i64), (5, .u8), (30, .u32), (58, .i8), (114, .u64), (115, .u64)]
  str := [9]
  bol := [4]
  eqt := [(31, [(.int .u32), (.int .u32), (.int .u32), (.int .u32), (.int .u32), (.int .u32)]), (88, [(.int .u32), (.int .u32), (.int .u32), (.int .u32), (.int .u32), (.int .u32)]), (116, [(.int .u32), (.int .u32), (.int .u32), (.int .u32), (.int .u32), (.int .u32)])]
  aix := [(88, 6, 30)]
def strC0 : ByteArray := ⟨#[0, 1, 2, 2, 3, 3, 3, 3, 4, 4, 4, 4, 4, 4, 4, 4, 5, 5, 5, 5, 5, 5, 5, 5, 5, 5, 5, 5, 5, 5, 5, 5, 6, 6, 6, 6, 6, 6, 6, 6, 6, 6, 6, 6, 6, 6, 6, 6, 6, 6, 6, 6, 6, 6, 6, 6, 6, 6, 6, 6, 6, 6, 6, 6, 7, 7, 7, 7, 7, 7, 7, 7, 7, 7, 7, 7, 7, 7, 7, 7, 7, 7, 7, 7, 7, 7, 7, 7, 7, 7, 7, 7, 7, 7, 7, 7, 7, 7, 7, 7, 7, 7, 7, 7, 7, 7, 7, 7, 7, 7, 7, 7, 7, 7, 7, 7, 7, 7, 7, 7, 7, 7, 7, 7, 7, 7, 7, 7, 8, 8, 8, 8, 8, 8, 8, 8, 8, 8, 8, 8, 8, 8, 8, 8, 8, 8, 8, 8, 8, 8, 8, 8, 8, 8, 8, 8, 8, 8, 8, 8, 8, 8, 8, 8, 8, 8, 8, 8, 8, 8, 8, 8, 8, 8, 8, 8, 8, 8, 8, 8, 8, 8, 8, 8, 8, 8, 8, 8, 8, 8, 8, 8, 8, 8, 8, 8, 8, 8, 8, 8, 8, 8, 8, 8, 8, 8, 8, 8, 8, 8, 8, 8, 8, 8, 8, 8, 8, 8, 8, 8, 8, 8, 8, 8, 8, 8, 8, 8, 8, 8, 8, 8, 8, 8, 8, 8, 8, 8, 8, 8, 8, 8, 8, 8, 8, 8, 8, 8, 8, 8, 8, 8, 8, 8, 8, 8]⟩
theorem tabBOk : tabB Go.Proofs.Try.prog tab = true := by kernel_rfl
theorem tabOk : TabOk Go.Proofs.Try.prog tab := tabOk_of tabBOk
theorem mixed : Go.Proofs.Try.prog.follows .mixedOrders = true := by kernel_rfl
end Go.Proofs.Ytobejeiffgehfaa.Sx
