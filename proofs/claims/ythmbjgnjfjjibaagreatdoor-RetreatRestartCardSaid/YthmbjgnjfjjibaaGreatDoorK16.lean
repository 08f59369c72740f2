/-
  Parts of the proof: Z9.
-/
import Derived.Test.YthmbjgnjfjjibaaGreatDoorK15
set_option linter.unusedVariables false
set_option linter.unusedSimpArgs false
namespace Go.Proofs.YthmbjgnjfjjibaaGreatDoor
set_option maxRecDepth 100000
theorem fz9:((chk (Jw 118 fa27) fr27&&Qi fa27)&&((chk (Jw 118 fa28) fr28&&Qi fa28)&&(chk (Jw 118 fa29) fr29&&Qi fa29)))=true:=by kernel_rfl
theorem fct27:Fct 118 fa27 fr27:=QP QO ((QR fz9).1)
theorem fct28:Fct 118 fa28 fr28:=QP QO (QR (QR fz9).2).1
theorem fct29:Fct 118 fa29 fr29:=QP QO (QR (QR fz9).2).2
end Go.Proofs.YthmbjgnjfjjibaaGreatDoor
