/-
  Parts of the proof: Z8.
-/
import Derived.Test.YthmbjgnjfjjibaaGreatDoorK14
set_option linter.unusedVariables false
set_option linter.unusedSimpArgs false
namespace Go.Proofs.YthmbjgnjfjjibaaGreatDoor
set_option maxRecDepth 100000
theorem fz8:((chk (Jw 118 fa24) fr24&&Qi fa24)&&((chk (Jw 118 fa25) fr25&&Qi fa25)&&(chk (Jw 118 fa26) fr26&&Qi fa26)))=true:=by kernel_rfl
theorem fct24:Fct 118 fa24 fr24:=QP QO ((QR fz8).1)
theorem fct25:Fct 118 fa25 fr25:=QP QO (QR (QR fz8).2).1
theorem fct26:Fct 118 fa26 fr26:=QP QO (QR (QR fz8).2).2
end Go.Proofs.YthmbjgnjfjjibaaGreatDoor
