/-
  Parts of the proof: Z7.
-/
import Derived.Test.YthmbjgnjfjjibaaGreatDoorK13
set_option linter.unusedVariables false
set_option linter.unusedSimpArgs false
namespace Go.Proofs.YthmbjgnjfjjibaaGreatDoor
set_option maxRecDepth 100000
theorem fz7:((chk (Jw 118 fa21) fr21&&Qi fa21)&&((chk (Jw 118 fa22) fr22&&Qi fa22)&&(chk (Jw 118 fa23) fr23&&Qi fa23)))=true:=by kernel_rfl
theorem fct21:Fct 118 fa21 fr21:=QP QO ((QR fz7).1)
theorem fct22:Fct 118 fa22 fr22:=QP QO (QR (QR fz7).2).1
theorem fct23:Fct 118 fa23 fr23:=QP QO (QR (QR fz7).2).2
end Go.Proofs.YthmbjgnjfjjibaaGreatDoor
