/-
  Parts of the proof: Z2.
-/
import Derived.Test.YthmbjgnjfjjibaaGreatDoorK8
set_option linter.unusedVariables false
set_option linter.unusedSimpArgs false
namespace Go.Proofs.YthmbjgnjfjjibaaGreatDoor
set_option maxRecDepth 100000
theorem fz2:((chk (Jw 118 fa6) fr6&&Qi fa6)&&((chk (Jw 118 fa7) fr7&&Qi fa7)&&(chk (Jw 118 fa8) fr8&&Qi fa8)))=true:=by kernel_rfl
theorem fct6:Fct 118 fa6 fr6:=QP QO ((QR fz2).1)
theorem fct7:Fct 118 fa7 fr7:=QP QO (QR (QR fz2).2).1
theorem fct8:Fct 118 fa8 fr8:=QP QO (QR (QR fz2).2).2
end Go.Proofs.YthmbjgnjfjjibaaGreatDoor
