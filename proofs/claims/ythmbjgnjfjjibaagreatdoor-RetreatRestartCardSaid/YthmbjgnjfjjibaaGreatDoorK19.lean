/-
  Parts of the proof: Y1.
-/
import Derived.Test.YthmbjgnjfjjibaaGreatDoorK18
set_option linter.unusedVariables false
set_option linter.unusedSimpArgs false
namespace Go.Proofs.YthmbjgnjfjjibaaGreatDoor
set_option maxRecDepth 100000
theorem fcE1:Fct 76 fe1 fs1:=QW XK (by kernel_rfl)
theorem fcE2:Fct 47 fe2 fs2:=QW XK (by kernel_rfl)
theorem fcE3:Fct 47 fe3 fs3:=QW XK (by kernel_rfl)
theorem fcE4:Fct 47 fe4 fs4:=QW XK (by kernel_rfl)
theorem fcE5:Fct 47 fe5 fs5:=QW XK (by kernel_rfl)
theorem fcE6:Fct 47 fe6 fs6:=QW XK (by kernel_rfl)
theorem fcE7:Fct 47 fe7 fs7:=QW XK (by kernel_rfl)
theorem fcE8:Fct 31 fe8 fs8:=QW XK (by kernel_rfl)
theorem fcE9:Fct 12 fe9 fs9:=QW XK (by kernel_rfl)
theorem fcE10:Fct 12 fe10 fs10:=QW XK (by kernel_rfl)
theorem fcE11:Fct 12 fe11 fs11:=QW XK (by kernel_rfl)
theorem fcE12:Fct 12 fe12 fs12:=QW XK (by kernel_rfl)
theorem fcE13:Fct 12 fe13 fs13:=QW XK (by kernel_rfl)
theorem fcE14:Fct 12 fe14 fs14:=QW XK (by kernel_rfl)
end Go.Proofs.YthmbjgnjfjjibaaGreatDoor
