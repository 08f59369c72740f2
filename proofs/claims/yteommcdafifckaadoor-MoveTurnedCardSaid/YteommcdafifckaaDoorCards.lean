/-
  DERIVED. GIVEN WITH THE SEED: THE CARDS: each row of YteommcdafifckaaDoorRows.lean that lists a variable, with what it lists TIED to the program's text (the seventh form; the later family's looks); each row that meets fmt, with fmt's text TOLD by the authors' own Lean function (tested against real Go, not proved from fmt's source: count such statements apart). THE CARD IS WHAT COUNTS. Prove the row's statement (the work); the ties are given (YteommcdafifckaaDoorTie.lean); close each card by the builder's one call (the guide's Derived/Test/ToyasCard.lean, 'card_holds'). Laid BY PROGRAM, IN A SANDBOX (cutbox-door.mjs). By AI agents, Wed Nov 11 2026. No macro, syntax, notation, axiom, sorry.
-/
import Derived.Test.YteommcdafifckaaDoorRows
import GoSem.ClaimSeven
namespace Go.Proofs.YteommcdafifckaaDoor
namespace Rows

/-- THE TIED CARD OF 'colletlaw15.MoveTurned'. -/
def moveTurnedCard : Claim7 := { stood := { row := moveTurnedRow, standIns := [], harness := (true, "859a89410a7fc34ad79e11494c0d9e46188fe1a6f4f834809f5781b1e8a6fd22"), looks := false }, kinds := [], alts := [], laidByText := true, laidKinds := [.wider], laidTests := true, laidLooks := .later }
def MoveTurnedCardSaid : Prop := Claim7.holds Tryd.pinned (.plain (OpenSpec.ofChange moveTurnedSpec)) moveTurnedCard

/-- THE SECOND FORM's CARD OF 'colletlaw15.MoveTurned'. -/
def moveTurnedUptoCard : Claim7 := { stood := { row := moveTurnedUptoRow, standIns := [], harness := (true, "859a89410a7fc34ad79e11494c0d9e46188fe1a6f4f834809f5781b1e8a6fd22"), looks := false }, kinds := [], alts := [], laidByText := true, laidKinds := [.wider], laidTests := true, laidLooks := .later }
def MoveTurnedUptoCardSaid : Prop := Claim7.holds Tryd.pinned (.plain (OpenSpec.upto moveTurnedSpec)) moveTurnedUptoCard
end Rows
end Go.Proofs.YteommcdafifckaaDoor
