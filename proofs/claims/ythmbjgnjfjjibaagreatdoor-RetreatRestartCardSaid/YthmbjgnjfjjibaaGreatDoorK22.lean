/-
  Parts of the proof: YA1.
-/
import Derived.Test.YthmbjgnjfjjibaaGreatDoorK21
set_option linter.unusedVariables false
set_option linter.unusedSimpArgs false
namespace Go.Proofs.YthmbjgnjfjjibaaGreatDoor
set_option maxRecDepth 100000
theorem cq16:FC Tryz.prog 23 [(.agg sPc),(.agg sXc),(.agg sS1c),(.agg sTc),(.rs 11 sLe),(.agg [(.int .i64 20),(.int .i64 25)]),(.int .i64 9),(.agg [(.int .i64 1),(.int .i64 1),(.int .i64 1)])] Gid (.tup [(.rs 11 sR16_0e),(.int .i64 0)]) Gid true:=evF_gid XF (by kernel_rfl)
end Go.Proofs.YthmbjgnjfjjibaaGreatDoor
