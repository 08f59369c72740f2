/-
  Parts of the proof: Z1.
-/
import Derived.Test.YthmbjgnjfjjibaaGreatDoorK7
set_option linter.unusedVariables false
set_option linter.unusedSimpArgs false
namespace Go.Proofs.YthmbjgnjfjjibaaGreatDoor
set_option maxRecDepth 100000
theorem fz1:((chk (Jw 118 fa3) fr3&&Qi fa3)&&((chk (Jw 64 fa4) fr4&&Qi fa4)&&(chk (Jw 118 fa5) fr5&&Qi fa5)))=true:=by kernel_rfl
theorem fct3:Fct 118 fa3 fr3:=QP QO ((QR fz1).1)
theorem fct4:Fct 64 fa4 fr4:=QP QO (QR (QR fz1).2).1
theorem fct5:Fct 118 fa5 fr5:=QP QO (QR (QR fz1).2).2
end Go.Proofs.YthmbjgnjfjjibaaGreatDoor
