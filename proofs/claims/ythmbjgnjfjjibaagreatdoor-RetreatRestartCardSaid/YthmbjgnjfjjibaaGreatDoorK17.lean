/-
  Parts of the proof: ZT.
-/
import Derived.Test.YthmbjgnjfjjibaaGreatDoorK16
set_option linter.unusedVariables false
set_option linter.unusedSimpArgs false
namespace Go.Proofs.YthmbjgnjfjjibaaGreatDoor
set_option maxRecDepth 100000
theorem XK:FctL fcts:=by
 intro x hx
 simp only [fcts,List.mem_cons,List.not_mem_nil,or_false] at hx
 rcases hx with rfl | rfl | rfl | rfl | rfl | rfl | rfl | rfl | rfl | rfl | rfl | rfl | rfl | rfl | rfl | rfl | rfl | rfl | rfl | rfl | rfl | rfl | rfl | rfl | rfl | rfl | rfl | rfl | rfl | rfl
 ·exact fct0
 ·exact fct1
 ·exact fct2
 ·exact fct3
 ·exact fct4
 ·exact fct5
 ·exact fct6
 ·exact fct7
 ·exact fct8
 ·exact fct9
 ·exact fct10
 ·exact fct11
 ·exact fct12
 ·exact fct13
 ·exact fct14
 ·exact fct15
 ·exact fct16
 ·exact fct17
 ·exact fct18
 ·exact fct19
 ·exact fct20
 ·exact fct21
 ·exact fct22
 ·exact fct23
 ·exact fct24
 ·exact fct25
 ·exact fct26
 ·exact fct27
 ·exact fct28
 ·exact fct29
end Go.Proofs.YthmbjgnjfjjibaaGreatDoor
