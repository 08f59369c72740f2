/-
  Parts of the proof: Z4.
-/
import Derived.Test.YthmbjgnjfjjibaaGreatDoorK10
set_option linter.unusedVariables false
set_option linter.unusedSimpArgs false
namespace Go.Proofs.YthmbjgnjfjjibaaGreatDoor
set_option maxRecDepth 100000
theorem fz4:((chk (Jw 118 fa12) fr12&&Qi fa12)&&((chk (Jw 118 fa13) fr13&&Qi fa13)&&(chk (Jw 118 fa14) fr14&&Qi fa14)))=true:=by kernel_rfl
theorem fct12:Fct 118 fa12 fr12:=QP QO ((QR fz4).1)
theorem fct13:Fct 118 fa13 fr13:=QP QO (QR (QR fz4).2).1
theorem fct14:Fct 118 fa14 fr14:=QP QO (QR (QR fz4).2).2
end Go.Proofs.YthmbjgnjfjjibaaGreatDoor
