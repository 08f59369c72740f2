/-
  Parts of the proof: Z6.
-/
import Derived.Test.YthmbjgnjfjjibaaGreatDoorK12
set_option linter.unusedVariables false
set_option linter.unusedSimpArgs false
namespace Go.Proofs.YthmbjgnjfjjibaaGreatDoor
set_option maxRecDepth 100000
theorem fz6:((chk (Jw 118 fa18) fr18&&Qi fa18)&&((chk (Jw 118 fa19) fr19&&Qi fa19)&&(chk (Jw 118 fa20) fr20&&Qi fa20)))=true:=by kernel_rfl
theorem fct18:Fct 118 fa18 fr18:=QP QO ((QR fz6).1)
theorem fct19:Fct 118 fa19 fr19:=QP QO (QR (QR fz6).2).1
theorem fct20:Fct 118 fa20 fr20:=QP QO (QR (QR fz6).2).2
end Go.Proofs.YthmbjgnjfjjibaaGreatDoor
