/-
  No cell of these rows narrows 'for every input' (looked for: loops, veiled, ifaces, maps, wideKeys, modest, calm, conditions, laid).
  DERIVED. THE GIVEN ROWS OF THIS SEAT. 6 by the template 'for every input the law returns true; each argument reads behind the call as it read before'; 0 by the template 'total and deterministic' (their statements: YteommcdafifckaaTotals.lean).
  GIVEN WITH THE SEED: the statements are not yours to turn. If you find one false, say at which input.
  Laid BY PROGRAM, IN A SANDBOX (cutbox-rows.mjs): the forced cells as the released guide's own fill.sh prints them over the translation fe668ea5e8c617fe… (all of the seat's roots in one cut). By AI agents, Wed Nov 11 2026. No macro, syntax, notation, axiom, sorry.
-/
import Derived.Test.YteommcdafifckaaChecked
import GoSem.Claim
import GoSem.ClaimJoined
import GoSem.ClaimMapViews
import Derived.JoinedTies
import Derived.KernelRfl
namespace Go.Proofs.Yteommcdafifckaa
/- THE CELL 'sum', in the pinned program and in every row, IS THE sha256 OF THE DUMP (.gsa) THAT YteommcdafifckaaProg.lean LOADS. Nothing in Lean hashes anything: it is a label: what it is worth is what the hold of that sum in a sandbox is worth. -/
noncomputable def Try.pinned : Pinned := { name := "yteommcdafifckaa", sum := "fe668ea5e8c617fe01c774e71f0e1db9f3c1ca1749c4a2b084a76302ec69b442", checked := Try.checked }
namespace Rows
def none {H : Type} : Left H := { results := [], args := [] }

/-- 'colletlaw15.MoveForms': WHATEVER THE INPUT: true; the input reads as it did. -/
def moveFormsSpec : ChangeSpec := { name := "moveForms", fn := fun _ => fun
  | [d1, d2, d3, d4] => { results := [.lit (.bool true)], args := [d1, d2, d3, d4] }
  | _ => none }
def moveFormsRow : OpenClaim := { program := "yteommcdafifckaa", sum := "fe668ea5e8c617fe01c774e71f0e1db9f3c1ca1749c4a2b084a76302ec69b442", func := "collet/colletlaw15.MoveForms", spec := "moveForms", unfollowed := true, recurses := true, apart := false }
def MoveFormsSaid : Prop := moveFormsRow.holds Try.pinned (OpenSpec.ofChange moveFormsSpec)

/-- ITS FALSE NEIGHBOUR: 'it returns false'. Refute it at one input. -/
def moveFormsWrong : ChangeSpec := { name := "moveForms", fn := fun _ => fun
  | [d1, d2, d3, d4] => { results := [.lit (.bool false)], args := [d1, d2, d3, d4] }
  | _ => none }
def MoveFormsWrongFalsely : Prop := moveFormsRow.holds Try.pinned (OpenSpec.ofChange moveFormsWrong)

/-- 'colletlaw15.MoveParts': WHATEVER THE INPUT: true; the input reads as it did. -/
def movePartsSpec : ChangeSpec := { name := "moveParts", fn := fun _ => fun
  | [d1, d2, d3, d4] => { results := [.lit (.bool true)], args := [d1, d2, d3, d4] }
  | _ => none }
def movePartsRow : OpenClaim := { program := "yteommcdafifckaa", sum := "fe668ea5e8c617fe01c774e71f0e1db9f3c1ca1749c4a2b084a76302ec69b442", func := "collet/colletlaw15.MoveParts", spec := "moveParts", unfollowed := true, recurses := true, apart := false }
def MovePartsSaid : Prop := movePartsRow.holds Try.pinned (OpenSpec.ofChange movePartsSpec)

/-- ITS FALSE NEIGHBOUR: 'it returns false'. Refute it at one input. -/
def movePartsWrong : ChangeSpec := { name := "moveParts", fn := fun _ => fun
  | [d1, d2, d3, d4] => { results := [.lit (.bool false)], args := [d1, d2, d3, d4] }
  | _ => none }
def MovePartsWrongFalsely : Prop := movePartsRow.holds Try.pinned (OpenSpec.ofChange movePartsWrong)

/-- 'colletlaw15.MoveReversed': WHATEVER THE INPUT: true; the input reads as it did. -/
def moveReversedSpec : ChangeSpec := { name := "moveReversed", fn := fun _ => fun
  | [d] => { results := [.lit (.bool true)], args := [d] }
  | _ => none }
def moveReversedRow : OpenClaim := { program := "yteommcdafifckaa", sum := "fe668ea5e8c617fe01c774e71f0e1db9f3c1ca1749c4a2b084a76302ec69b442", func := "collet/colletlaw15.MoveReversed", spec := "moveReversed", unfollowed := true, recurses := true, apart := false }
def MoveReversedSaid : Prop := moveReversedRow.holds Try.pinned (OpenSpec.ofChange moveReversedSpec)

/-- ITS FALSE NEIGHBOUR: 'it returns false'. Refute it at one input. -/
def moveReversedWrong : ChangeSpec := { name := "moveReversed", fn := fun _ => fun
  | [d] => { results := [.lit (.bool false)], args := [d] }
  | _ => none }
def MoveReversedWrongFalsely : Prop := moveReversedRow.holds Try.pinned (OpenSpec.ofChange moveReversedWrong)

/-- 'colletlaw15.MoveEnds': WHATEVER THE INPUT: true; the input reads as it did. -/
def moveEndsSpec : ChangeSpec := { name := "moveEnds", fn := fun _ => fun
  | [d] => { results := [.lit (.bool true)], args := [d] }
  | _ => none }
def moveEndsRow : OpenClaim := { program := "yteommcdafifckaa", sum := "fe668ea5e8c617fe01c774e71f0e1db9f3c1ca1749c4a2b084a76302ec69b442", func := "collet/colletlaw15.MoveEnds", spec := "moveEnds", unfollowed := true, recurses := true, apart := false }
def MoveEndsSaid : Prop := moveEndsRow.holds Try.pinned (OpenSpec.ofChange moveEndsSpec)

/-- ITS FALSE NEIGHBOUR: 'it returns false'. Refute it at one input. -/
def moveEndsWrong : ChangeSpec := { name := "moveEnds", fn := fun _ => fun
  | [d] => { results := [.lit (.bool false)], args := [d] }
  | _ => none }
def MoveEndsWrongFalsely : Prop := moveEndsRow.holds Try.pinned (OpenSpec.ofChange moveEndsWrong)

/-- 'colletlaw15.MoveBetween': WHATEVER THE INPUT: true; the input reads as it did. -/
def moveBetweenSpec : ChangeSpec := { name := "moveBetween", fn := fun _ => fun
  | [d1, d2] => { results := [.lit (.bool true)], args := [d1, d2] }
  | _ => none }
def moveBetweenRow : OpenClaim := { program := "yteommcdafifckaa", sum := "fe668ea5e8c617fe01c774e71f0e1db9f3c1ca1749c4a2b084a76302ec69b442", func := "collet/colletlaw15.MoveBetween", spec := "moveBetween", unfollowed := true, recurses := true, apart := false }
def MoveBetweenSaid : Prop := moveBetweenRow.holds Try.pinned (OpenSpec.ofChange moveBetweenSpec)

/-- ITS FALSE NEIGHBOUR: 'it returns false'. Refute it at one input. -/
def moveBetweenWrong : ChangeSpec := { name := "moveBetween", fn := fun _ => fun
  | [d1, d2] => { results := [.lit (.bool false)], args := [d1, d2] }
  | _ => none }
def MoveBetweenWrongFalsely : Prop := moveBetweenRow.holds Try.pinned (OpenSpec.ofChange moveBetweenWrong)

/-- 'colletlaw15.MoveOuter': WHATEVER THE INPUT: true; the input reads as it did. -/
def moveOuterSpec : ChangeSpec := { name := "moveOuter", fn := fun _ => fun
  | [d1, d2, d3] => { results := [.lit (.bool true)], args := [d1, d2, d3] }
  | _ => none }
def moveOuterRow : OpenClaim := { program := "yteommcdafifckaa", sum := "fe668ea5e8c617fe01c774e71f0e1db9f3c1ca1749c4a2b084a76302ec69b442", func := "collet/colletlaw15.MoveOuter", spec := "moveOuter", unfollowed := true, recurses := true, apart := false }
def MoveOuterSaid : Prop := moveOuterRow.holds Try.pinned (OpenSpec.ofChange moveOuterSpec)

/-- ITS FALSE NEIGHBOUR: 'it returns false'. Refute it at one input. -/
def moveOuterWrong : ChangeSpec := { name := "moveOuter", fn := fun _ => fun
  | [d1, d2, d3] => { results := [.lit (.bool false)], args := [d1, d2, d3] }
  | _ => none }
def MoveOuterWrongFalsely : Prop := moveOuterRow.holds Try.pinned (OpenSpec.ofChange moveOuterWrong)

/- THE SECOND FORM. 'bulk': how many values and letters a reading holds, each counted each time it is reached (what is shared counts as often as it is met; a slice's spare places count too). A statement '..UptoSaid' is the law's where the arguments, and the package variables that the reading takes, are together of bulk at most 1048576: NARROWER than '..Said'. Prove '..Said' where nothing that the law and all that it calls make is longer than what came in: it says more and counts as full. Else prove '..UptoSaid'. A law counts once. -/
mutual
def uptoBulk {H : Type} : DataW H → Nat
  | .lit (.string bytes) => bytes.length + 1
  | .lit _ => 1
  | .nil => 1
  | .ptr d => uptoBulk d + 1
  | .slice elems spare => uptoBulkAll elems + uptoBulkAll spare + 1
  | .agg parts => uptoBulkAll parts + 1
  | .iface _ d => uptoBulk d + 1
  | .map entries => uptoBulkEntries entries + 1
  | .held _ => 1
def uptoBulkAll {H : Type} : List (DataW H) → Nat
  | [] => 0
  | d :: r => uptoBulk d + uptoBulkAll r
def uptoBulkEntries {H : Type} : List (Lit × DataW H) → Nat
  | [] => 0
  | x :: r => uptoBulkEntry x + uptoBulkEntries r
def uptoBulkEntry {H : Type} : Lit × DataW H → Nat
  | (.string bytes, d) => bytes.length + uptoBulk d + 1
  | (_, d) => uptoBulk d + 1
 end
def uptoSmall : (H : Type) → List (DataW H) → Bool := fun _ ds => decide (uptoBulkAll ds ≤ 1048576)
def OpenSpec.upto (s : _root_.Go.ChangeSpec) : _root_.Go.OpenSpec := { _root_.Go.OpenSpec.ofChange s with cond := some uptoSmall }

/-- 'colletlaw15.MoveForms', WHERE WHAT IT READS IS OF BULK AT MOST 1048576: true; the input reads as it did. -/
def moveFormsUptoRow : OpenClaim := { program := "yteommcdafifckaa", sum := "fe668ea5e8c617fe01c774e71f0e1db9f3c1ca1749c4a2b084a76302ec69b442", func := "collet/colletlaw15.MoveForms", spec := "moveForms", unfollowed := true, recurses := true, apart := false, narrowed := true }
def MoveFormsUptoSaid : Prop := moveFormsUptoRow.holds Try.pinned (OpenSpec.upto moveFormsSpec)

/-- 'colletlaw15.MoveParts', WHERE WHAT IT READS IS OF BULK AT MOST 1048576: true; the input reads as it did. -/
def movePartsUptoRow : OpenClaim := { program := "yteommcdafifckaa", sum := "fe668ea5e8c617fe01c774e71f0e1db9f3c1ca1749c4a2b084a76302ec69b442", func := "collet/colletlaw15.MoveParts", spec := "moveParts", unfollowed := true, recurses := true, apart := false, narrowed := true }
def MovePartsUptoSaid : Prop := movePartsUptoRow.holds Try.pinned (OpenSpec.upto movePartsSpec)

/-- 'colletlaw15.MoveReversed', WHERE WHAT IT READS IS OF BULK AT MOST 1048576: true; the input reads as it did. -/
def moveReversedUptoRow : OpenClaim := { program := "yteommcdafifckaa", sum := "fe668ea5e8c617fe01c774e71f0e1db9f3c1ca1749c4a2b084a76302ec69b442", func := "collet/colletlaw15.MoveReversed", spec := "moveReversed", unfollowed := true, recurses := true, apart := false, narrowed := true }
def MoveReversedUptoSaid : Prop := moveReversedUptoRow.holds Try.pinned (OpenSpec.upto moveReversedSpec)

/-- 'colletlaw15.MoveEnds', WHERE WHAT IT READS IS OF BULK AT MOST 1048576: true; the input reads as it did. -/
def moveEndsUptoRow : OpenClaim := { program := "yteommcdafifckaa", sum := "fe668ea5e8c617fe01c774e71f0e1db9f3c1ca1749c4a2b084a76302ec69b442", func := "collet/colletlaw15.MoveEnds", spec := "moveEnds", unfollowed := true, recurses := true, apart := false, narrowed := true }
def MoveEndsUptoSaid : Prop := moveEndsUptoRow.holds Try.pinned (OpenSpec.upto moveEndsSpec)

/-- 'colletlaw15.MoveBetween', WHERE WHAT IT READS IS OF BULK AT MOST 1048576: true; the input reads as it did. -/
def moveBetweenUptoRow : OpenClaim := { program := "yteommcdafifckaa", sum := "fe668ea5e8c617fe01c774e71f0e1db9f3c1ca1749c4a2b084a76302ec69b442", func := "collet/colletlaw15.MoveBetween", spec := "moveBetween", unfollowed := true, recurses := true, apart := false, narrowed := true }
def MoveBetweenUptoSaid : Prop := moveBetweenUptoRow.holds Try.pinned (OpenSpec.upto moveBetweenSpec)

/-- 'colletlaw15.MoveOuter', WHERE WHAT IT READS IS OF BULK AT MOST 1048576: true; the input reads as it did. -/
def moveOuterUptoRow : OpenClaim := { program := "yteommcdafifckaa", sum := "fe668ea5e8c617fe01c774e71f0e1db9f3c1ca1749c4a2b084a76302ec69b442", func := "collet/colletlaw15.MoveOuter", spec := "moveOuter", unfollowed := true, recurses := true, apart := false, narrowed := true }
def MoveOuterUptoSaid : Prop := moveOuterUptoRow.holds Try.pinned (OpenSpec.upto moveOuterSpec)

end Rows
end Go.Proofs.Yteommcdafifckaa
