/-
  Parts of the proof: Z5.
-/
import Derived.Test.YthmbjgnjfjjibaaGreatDoorK11
set_option linter.unusedVariables false
set_option linter.unusedSimpArgs false
namespace Go.Proofs.YthmbjgnjfjjibaaGreatDoor
set_option maxRecDepth 100000
theorem fz5:((chk (Jw 118 fa15) fr15&&Qi fa15)&&((chk (Jw 118 fa16) fr16&&Qi fa16)&&(chk (Jw 118 fa17) fr17&&Qi fa17)))=true:=by kernel_rfl
theorem fct15:Fct 118 fa15 fr15:=QP QO ((QR fz5).1)
theorem fct16:Fct 118 fa16 fr16:=QP QO (QR (QR fz5).2).1
theorem fct17:Fct 118 fa17 fr17:=QP QO (QR (QR fz5).2).2
end Go.Proofs.YthmbjgnjfjjibaaGreatDoor
