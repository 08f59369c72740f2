/-
  Parts of the proof: Z3.
-/
import Derived.Test.YthmbjgnjfjjibaaGreatDoorK9
set_option linter.unusedVariables false
set_option linter.unusedSimpArgs false
namespace Go.Proofs.YthmbjgnjfjjibaaGreatDoor
set_option maxRecDepth 100000
theorem fz3:((chk (Jw 118 fa9) fr9&&Qi fa9)&&((chk (Jw 118 fa10) fr10&&Qi fa10)&&(chk (Jw 118 fa11) fr11&&Qi fa11)))=true:=by kernel_rfl
theorem fct9:Fct 118 fa9 fr9:=QP QO ((QR fz3).1)
theorem fct10:Fct 118 fa10 fr10:=QP QO (QR (QR fz3).2).1
theorem fct11:Fct 118 fa11 fr11:=QP QO (QR (QR fz3).2).2
end Go.Proofs.YthmbjgnjfjjibaaGreatDoor
