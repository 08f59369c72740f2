/-
  DERIVED. GIVEN WITH THE SEED: THE CARDS: each row of YthmbjgnjfjjibaaGreatDoorRows.lean that lists a variable, with what it lists TIED to the program's text (the seventh form; the later family's looks); each row that meets fmt, with fmt's text TOLD by the authors' own Lean function (tested against real Go, not proved from fmt's source: count such statements apart). THE CARD IS WHAT COUNTS. Prove the row's statement (the work); the ties are given (YthmbjgnjfjjibaaGreatDoorTie.lean); close each card by the builder's one call (the guide's Derived/Test/ToyasCard.lean, 'card_holds'). Laid BY PROGRAM, IN A SANDBOX (cutbox-door.mjs). By AI agents, Wed Nov 11 2026. No macro, syntax, notation, axiom, sorry.
-/
import Derived.Test.YthmbjgnjfjjibaaGreatDoorRows
import GoSem.ClaimSeven
namespace Go.Proofs.YthmbjgnjfjjibaaGreatDoor
namespace Rows

/-- THE TIED CARD OF 'colletlaw36.RetreatRestart'. -/
def retreatRestartCard : Claim7 := { stood := { row := retreatRestartRow, standIns := [], harness := (true, "eafa506783dbf8062268ec4e1282b25daf0c7b72812c7d7d073f632810f09048"), looks := true }, kinds := [], alts := [], laidByText := true, laidKinds := [.data, .wider, .pinned], laidTests := true, laidLooks := .later }
def RetreatRestartCardSaid : Prop := Claim7.holds Tryz.pinned (.plain (OpenSpec.ofChange retreatRestartSpec)) retreatRestartCard

/-- THE SECOND FORM's CARD OF 'colletlaw36.RetreatRestart'. -/
def retreatRestartUptoCard : Claim7 := { stood := { row := retreatRestartUptoRow, standIns := [], harness := (true, "eafa506783dbf8062268ec4e1282b25daf0c7b72812c7d7d073f632810f09048"), looks := true }, kinds := [], alts := [], laidByText := true, laidKinds := [.data, .wider, .pinned], laidTests := true, laidLooks := .later }
def RetreatRestartUptoCardSaid : Prop := Claim7.holds Tryz.pinned (.plain (OpenSpec.upto retreatRestartSpec)) retreatRestartUptoCard
end Rows
end Go.Proofs.YthmbjgnjfjjibaaGreatDoor
