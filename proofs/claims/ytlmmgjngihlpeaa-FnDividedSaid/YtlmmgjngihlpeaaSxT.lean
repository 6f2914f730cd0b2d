/- The program's types. Printed by our own sx.py. -/
import Derived.Test.YtlmmgjngihlpeaaProg
import Derived.Test.YtlmmgjngihlpeaaSxO
namespace Go.Proofs.Ytlmmgjngihlpeaa.Sx
open Go
set_option linter.unusedVariables false
set_option maxRecDepth 100000
def tab : Tab where
  agg := [(25, 6), (27, 7), (64, 6), (71, 1), (78, 6)]
  sca := [3, 4, 5, 22, 24, 76]
  zero := [(25, [(.seq (.int .u32) 6 [0, 0, 0, 0, 0, 0])]), (27, [(.one (.bool false)), (.seq (.int .u32) 6 [0, 0, 0, 0, 0, 0])]), (64, [(.seq (.int .u32) 6 [0, 0, 0, 0, 0, 0])]), (71, [(.one (.bool false))]), (78, [(.seq (.int .u32) 6 [0, 0, 0, 0, 0, 0])]), (120, [(.one .nils), (.one (.int .i64 (0 : Int))), (.one (.int .u64 (0 : Int)))]), (153, [(.seq (.int .u32) 7 [0, 0, 0, 0, 0, 0, 0])]), (156, [(.seq (.int .u32) 12 [0, 0, 0, 0, 0, 0, 0, 0, 0, 0, 0, 0])])]
  fld := [(27, [(0, 1), (1, 6)]), (71, [(0, 1)]), (120, [(0, 1), (1, 1), (2, 1)])]
  arr := [(25, 6, 1), (64, 6, 1), (78, 6, 1), (153, 7, 1), (156, 12, 1)]
  sli := [(22, 5, 1), (154, 24, 1)]
  knd := [(2, .i64), (3, .i64), (5, .u8), (24, .u32), (63, .u64), (76, .u64)]
  str := [9]
  bol := [4]
  eqt := [(25, [(.int .u32), (.int .u32), (.int .u32), (.int .u32), (.int .u32), (.int .u32)]), (27, [.bool, (.int .u32), (.int .u32), (.int .u32), (.int .u32), (.int .u32), (.int .u32)]), (64, [(.int .u32), (.int .u32), (.int .u32), (.int .u32), (.int .u32), (.int .u32)]), (78, [(.int .u32), (.int .u32), (.int .u32), (.int .u32), (.int .u32), (.int .u32)])]
  aix := [(78, 6, 24)]
def strC0 : ByteArray := ⟨#[0, 1, 2, 2, 3, 3, 3, 3, 4, 4, 4, 4, 4, 4, 4, 4, 5, 5, 5, 5, 5, 5, 5, 5, 5, 5, 5, 5, 5, 5, 5, 5, 6, 6, 6, 6, 6, 6, 6, 6, 6, 6, 6, 6, 6, 6, 6, 6, 6, 6, 6, 6, 6, 6, 6, 6, 6, 6, 6, 6, 6, 6, 6, 6, 7, 7, 7, 7, 7, 7, 7, 7, 7, 7, 7, 7, 7, 7, 7, 7, 7, 7, 7, 7, 7, 7, 7, 7, 7, 7, 7, 7, 7, 7, 7, 7, 7, 7, 7, 7, 7, 7, 7, 7, 7, 7, 7, 7, 7, 7, 7, 7, 7, 7, 7, 7, 7, 7, 7, 7, 7, 7, 7, 7, 7, 7, 7, 7, 8, 8, 8, 8, 8, 8, 8, 8, 8, 8, 8, 8, 8, 8, 8, 8, 8, 8, 8, 8, 8, 8, 8, 8, 8, 8, 8, 8, 8, 8, 8, 8, 8, 8, 8, 8, 8, 8, 8, 8, 8, 8, 8, 8, 8, 8, 8, 8, 8, 8, 8, 8, 8, 8, 8, 8, 8, 8, 8, 8, 8, 8, 8, 8, 8, 8, 8, 8, 8, 8, 8, 8, 8, 8, 8, 8, 8, 8, 8, 8, 8, 8, 8, 8, 8, 8, 8, 8, 8, 8, 8, 8, 8, 8, 8, 8, 8, 8, 8, 8, 8, 8, 8, 8, 8, 8, 8, 8, 8, 8, 8, 8, 8, 8, 8, 8, 8, 8, 8, 8, 8, 8, 8, 8, 8, 8, 8, 8]⟩
theorem tabBOk : tabB Go.Proofs.Try.prog tab = true := by kernel_rfl
theorem tabOk : TabOk Go.Proofs.Try.prog tab := tabOk_of tabBOk
theorem mixed : Go.Proofs.Try.prog.follows .mixedOrders = true := by kernel_rfl
end Go.Proofs.Ytlmmgjngihlpeaa.Sx
