/-
  Parts of the proof: Z0.
-/
import Derived.Test.YthmbjgnjfjjibaaGreatDoorK6
set_option linter.unusedVariables false
set_option linter.unusedSimpArgs false
namespace Go.Proofs.YthmbjgnjfjjibaaGreatDoor
set_option maxRecDepth 100000
theorem fz0:((chk (Jw 64 fa0) fr0&&Qi fa0)&&((chk (Jw 118 fa1) fr1&&Qi fa1)&&(chk (Jw 64 fa2) fr2&&Qi fa2)))=true:=by kernel_rfl
theorem fct0:Fct 64 fa0 fr0:=QP QO ((QR fz0).1)
theorem fct1:Fct 118 fa1 fr1:=QP QO (QR (QR fz0).2).1
theorem fct2:Fct 64 fa2 fr2:=QP QO (QR (QR fz0).2).2
end Go.Proofs.YthmbjgnjfjjibaaGreatDoor
