/-
  Parts of the proof: YA4.
-/
import Derived.Test.YthmbjgnjfjjibaaGreatDoorK24
set_option linter.unusedVariables false
set_option linter.unusedSimpArgs false
namespace Go.Proofs.YthmbjgnjfjjibaaGreatDoor
set_option maxRecDepth 100000
theorem cq0:FC Tryz.prog 14 [] [] (.agg sSc) [] true:=(QW XF (by kernel_rfl)).1
theorem cq1:FC Tryz.prog 15 [] [] (.agg sTc) [] true:=(QW XF (by kernel_rfl)).1
theorem cq2:FC Tryz.prog 16 [(.int .i64 (-3))] [] (.rs 11 sL8e) [] true:=(QW XF (by kernel_rfl)).1
theorem cq3:FC Tryz.prog 17 [(.bool false)] [] (.rs 1 sCe) [] true:=(QW XF (by kernel_rfl)).1
theorem cq4:FC Tryz.prog 18 [(.agg sPc)] [] (.agg sXc) [] true:=(QW XF (by kernel_rfl)).1
theorem cq6:FC Tryz.prog 21 [(.rs 4 sKe),(.agg [(.int .i64 (-9)),(.int .i64 (-1)),(.int .i64 3)])] [] (.bool true) [] true:=(QW XF (by kernel_rfl)).1
theorem cq7:FC Tryz.prog 21 [(.rs 4 sKe),(.agg [(.int .i64 (-8)),(.int .i64 (-1)),(.int .i64 3)])] [] (.bool false) [] true:=(QW XF (by kernel_rfl)).1
theorem cq8:FC Tryz.prog 21 [(.rs 4 sKe),(.agg [(.int .i64 (-19)),(.int .i64 (-7)),(.int .i64 (-2))])] [] (.bool true) [] true:=(QW XF (by kernel_rfl)).1
theorem cq10:FC Tryz.prog 22 [(.rs 11 sLe),(.agg [(.int .i64 20),(.int .i64 25)]),(.agg [(.int .i64 15),(.int .i64 25)]),(.int .i64 11)] [] (.bool true) [] true:=(QW XF (by kernel_rfl)).1
theorem cq11:FC Tryz.prog 22 [(.rs 11 sLe),(.agg [(.int .i64 34),(.int .i64 38)]),(.agg [(.int .i64 34),(.int .i64 38)]),(.int .i64 34)] [] (.bool true) [] true:=(QW XF (by kernel_rfl)).1
theorem cq12:FC Tryz.prog 9 [(.rs 11 sLe),(.agg [(.int .i64 61),(.int .i64 61)]),(.agg [(.int .i64 61),(.int .i64 61)])] [] (.tup [(.int .i64 0),(.int .i64 43)]) [] true:=(QW XF (by kernel_rfl)).1
theorem cq13:FC Tryz.prog 9 [(.rs 11 sLe),(.agg [(.int .i64 20),(.int .i64 25)]),(.agg [(.int .i64 15),(.int .i64 26)])] [] (.tup [(.int .i64 0),(.int .i64 3)]) [] true:=(QW XF (by kernel_rfl)).1
theorem cq15:FC Tryz.prog 24 [(.agg [(.int .i64 (-9)),(.int .i64 (-9)),(.int .i64 14)]),(.agg [(.int .i64 9),(.int .i64 9),(.int .i64 15)])] [] (.rs 4 sBe) [] true:=(QW XF (by kernel_rfl)).1
end Go.Proofs.YthmbjgnjfjjibaaGreatDoor
