/-
  Parts of the proof: YA3.
-/
import Derived.Test.YthmbjgnjfjjibaaGreatDoorK23
set_option linter.unusedVariables false
set_option linter.unusedSimpArgs false
namespace Go.Proofs.YthmbjgnjfjjibaaGreatDoor
set_option maxRecDepth 100000
theorem cq9:FC Tryz.prog 20 [(.agg sSc),(.agg sTc),(.int .i64 0),(.rs 11 sLe),(.agg [(.int .i64 11),(.int .i64 11)]),(.agg [(.int .i64 11),(.int .i64 11)]),(.agg [(.int .i64 1),(.int .i64 1),(.int .i64 1)])] Gid (.tup [(.rs 1 []),(.rs 1 sR9_1e),(.int .i64 0)]) Gid true:=evF_gid XF (by kernel_rfl)
end Go.Proofs.YthmbjgnjfjjibaaGreatDoor
