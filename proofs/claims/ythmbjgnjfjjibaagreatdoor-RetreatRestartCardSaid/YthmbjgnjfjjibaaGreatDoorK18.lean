/-
  Parts of the proof: Y0.
-/
import Derived.Test.YthmbjgnjfjjibaaGreatDoorK17
set_option linter.unusedVariables false
set_option linter.unusedSimpArgs false
namespace Go.Proofs.YthmbjgnjfjjibaaGreatDoor
set_option maxRecDepth 100000
theorem fcE0:Fct 105 fe0 fs0:=QW XK (by kernel_rfl)
end Go.Proofs.YthmbjgnjfjjibaaGreatDoor
