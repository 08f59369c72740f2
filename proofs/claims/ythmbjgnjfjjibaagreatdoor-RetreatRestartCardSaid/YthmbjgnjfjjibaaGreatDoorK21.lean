/-
  Parts of the proof: YA0.
-/
import Derived.Test.YthmbjgnjfjjibaaGreatDoorK20
set_option linter.unusedVariables false
set_option linter.unusedSimpArgs false
namespace Go.Proofs.YthmbjgnjfjjibaaGreatDoor
set_option maxRecDepth 100000
theorem cq14:FC Tryz.prog 23 [(.agg sPc),(.agg sXc),(.agg sSc),(.agg sTc),(.rs 11 sLe),(.agg [(.int .i64 20),(.int .i64 25)]),(.int .i64 9),(.agg [(.int .i64 1),(.int .i64 1),(.int .i64 1)])] Gid (.tup [(.rs 11 sR14_0e),(.int .i64 0)]) Gid true:=evF_gid XF (by kernel_rfl)
end Go.Proofs.YthmbjgnjfjjibaaGreatDoor
