/-
  Parts of the proof: YA2.
-/
import Derived.Test.YthmbjgnjfjjibaaGreatDoorK22
set_option linter.unusedVariables false
set_option linter.unusedSimpArgs false
namespace Go.Proofs.YthmbjgnjfjjibaaGreatDoor
set_option maxRecDepth 100000
theorem cq5:FC Tryz.prog 20 [(.agg sSc),(.agg sTc),(.int .i64 0),(.rs 11 sLe),(.agg [(.int .i64 20),(.int .i64 25)]),(.agg [(.int .i64 15),(.int .i64 25)]),(.agg [(.int .i64 1),(.int .i64 1),(.int .i64 1)])] Gid (.tup [(.rs 1 sR5_0e),(.rs 1 sR5_1e),(.int .i64 0)]) Gid true:=evF_gid XF (by kernel_rfl)
end Go.Proofs.YthmbjgnjfjjibaaGreatDoor
