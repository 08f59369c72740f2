/-
  No cell of these rows narrows 'for every input' (looked for: loops, veiled, ifaces, maps, wideKeys, modest, calm, conditions, laid).
  DERIVED. THE GIVEN ROWS OF THIS SEAT. 5 by the template 'for every input the law returns true; each argument reads behind the call as it read before'; 0 by the template 'total and deterministic' (their statements: YthfhaoogcpfboaaGreatTotals.lean).
  GIVEN WITH THE SEED: the statements are not yours to turn. If you find one false, say at which input.
  Laid BY PROGRAM, IN A SANDBOX (cutbox-rows.mjs): the forced cells as the released guide's own fill.sh prints them over the translation 4b8d9eaecca97a51… (all of the seat's roots in one cut). By AI agents, Wed Nov 11 2026. No macro, syntax, notation, axiom, sorry.
-/
import Derived.Test.YthfhaoogcpfboaaGreatChecked
import GoSem.Claim
import GoSem.ClaimJoined
import GoSem.ClaimMapViews
import Derived.JoinedTies
import Derived.KernelRfl
namespace Go.Proofs.YthfhaoogcpfboaaGreat
/- THE CELL 'sum', in the pinned program and in every row, IS THE sha256 OF THE DUMP (.gsa) THAT YthfhaoogcpfboaaGreatProg.lean LOADS. Nothing in Lean hashes anything: it is a label: what it is worth is what the hold of that sum in a sandbox is worth. -/
noncomputable def Tryz.pinned : Pinned := { name := "ythfhaoogcpfboaagreat", sum := "4b8d9eaecca97a512f811d3489cb4c1ad424ed280f67109a73f8bbae91c6c081", checked := Tryz.checked }
namespace Rows
def none {H : Type} : Left H := { results := [], args := [] }

/-- 'colletlaw38.RevealForms': WHATEVER THE INPUT: true; the input reads as it did. -/
def revealFormsSpec : ChangeSpec := { name := "revealForms", fn := fun _ => fun
  | [d1, d2, d3, d4, d5, d6, d7] => { results := [.lit (.bool true)], args := [d1, d2, d3, d4, d5, d6, d7] }
  | _ => none }
def revealFormsRow : OpenClaim := { program := "ythfhaoogcpfboaagreat", sum := "4b8d9eaecca97a512f811d3489cb4c1ad424ed280f67109a73f8bbae91c6c081", func := "collet/colletlaw38.RevealForms", spec := "revealForms", inPlace := ["internal/abi.NoEscape"], unfollowed := true, recurses := true, plainKeys := false, apart := false }
def RevealFormsSaid : Prop := revealFormsRow.holds Tryz.pinned (OpenSpec.ofChange revealFormsSpec)

/-- ITS FALSE NEIGHBOUR: 'it returns false'. Refute it at one input. -/
def revealFormsWrong : ChangeSpec := { name := "revealForms", fn := fun _ => fun
  | [d1, d2, d3, d4, d5, d6, d7] => { results := [.lit (.bool false)], args := [d1, d2, d3, d4, d5, d6, d7] }
  | _ => none }
def RevealFormsWrongFalsely : Prop := revealFormsRow.holds Tryz.pinned (OpenSpec.ofChange revealFormsWrong)

/-- 'colletlaw38.RevealRoots': WHATEVER THE INPUT: true; the input reads as it did. -/
def revealRootsSpec : ChangeSpec := { name := "revealRoots", fn := fun _ => fun
  | [d1, d2, d3, d4] => { results := [.lit (.bool true)], args := [d1, d2, d3, d4] }
  | _ => none }
def revealRootsRow : OpenClaim := { program := "ythfhaoogcpfboaagreat", sum := "4b8d9eaecca97a512f811d3489cb4c1ad424ed280f67109a73f8bbae91c6c081", func := "collet/colletlaw38.RevealRoots", spec := "revealRoots", inPlace := ["internal/abi.NoEscape"], unfollowed := true, recurses := true, plainKeys := false, apart := false }
def RevealRootsSaid : Prop := revealRootsRow.holds Tryz.pinned (OpenSpec.ofChange revealRootsSpec)

/-- ITS FALSE NEIGHBOUR: 'it returns false'. Refute it at one input. -/
def revealRootsWrong : ChangeSpec := { name := "revealRoots", fn := fun _ => fun
  | [d1, d2, d3, d4] => { results := [.lit (.bool false)], args := [d1, d2, d3, d4] }
  | _ => none }
def RevealRootsWrongFalsely : Prop := revealRootsRow.holds Tryz.pinned (OpenSpec.ofChange revealRootsWrong)

/-- 'colletlaw38.RevealComposes': WHATEVER THE INPUT: true; the input reads as it did. -/
def revealComposesSpec : ChangeSpec := { name := "revealComposes", fn := fun _ => fun
  | [d1, d2, d3] => { results := [.lit (.bool true)], args := [d1, d2, d3] }
  | _ => none }
def revealComposesRow : OpenClaim := { program := "ythfhaoogcpfboaagreat", sum := "4b8d9eaecca97a512f811d3489cb4c1ad424ed280f67109a73f8bbae91c6c081", func := "collet/colletlaw38.RevealComposes", spec := "revealComposes", inPlace := ["internal/abi.NoEscape"], unfollowed := true, recurses := true, plainKeys := false, apart := false }
def RevealComposesSaid : Prop := revealComposesRow.holds Tryz.pinned (OpenSpec.ofChange revealComposesSpec)

/-- ITS FALSE NEIGHBOUR: 'it returns false'. Refute it at one input. -/
def revealComposesWrong : ChangeSpec := { name := "revealComposes", fn := fun _ => fun
  | [d1, d2, d3] => { results := [.lit (.bool false)], args := [d1, d2, d3] }
  | _ => none }
def RevealComposesWrongFalsely : Prop := revealComposesRow.holds Tryz.pinned (OpenSpec.ofChange revealComposesWrong)

/-- 'colletlaw38.RevealBinds': WHATEVER THE INPUT: true; the input reads as it did. -/
def revealBindsSpec : ChangeSpec := { name := "revealBinds", fn := fun _ => fun
  | [d1, d2, d3] => { results := [.lit (.bool true)], args := [d1, d2, d3] }
  | _ => none }
def revealBindsRow : OpenClaim := { program := "ythfhaoogcpfboaagreat", sum := "4b8d9eaecca97a512f811d3489cb4c1ad424ed280f67109a73f8bbae91c6c081", func := "collet/colletlaw38.RevealBinds", spec := "revealBinds", inPlace := ["internal/abi.NoEscape"], unfollowed := true, recurses := true, plainKeys := false, apart := false }
def RevealBindsSaid : Prop := revealBindsRow.holds Tryz.pinned (OpenSpec.ofChange revealBindsSpec)

/-- ITS FALSE NEIGHBOUR: 'it returns false'. Refute it at one input. -/
def revealBindsWrong : ChangeSpec := { name := "revealBinds", fn := fun _ => fun
  | [d1, d2, d3] => { results := [.lit (.bool false)], args := [d1, d2, d3] }
  | _ => none }
def RevealBindsWrongFalsely : Prop := revealBindsRow.holds Tryz.pinned (OpenSpec.ofChange revealBindsWrong)

/-- 'colletlaw38.RevealHides': WHATEVER THE INPUT: true; the input reads as it did. -/
def revealHidesSpec : ChangeSpec := { name := "revealHides", fn := fun _ => fun
  | [d1, d2, d3, d4] => { results := [.lit (.bool true)], args := [d1, d2, d3, d4] }
  | _ => none }
def revealHidesRow : OpenClaim := { program := "ythfhaoogcpfboaagreat", sum := "4b8d9eaecca97a512f811d3489cb4c1ad424ed280f67109a73f8bbae91c6c081", func := "collet/colletlaw38.RevealHides", spec := "revealHides", inPlace := ["internal/abi.NoEscape"], unfollowed := true, recurses := true, plainKeys := false, apart := false }
def RevealHidesSaid : Prop := revealHidesRow.holds Tryz.pinned (OpenSpec.ofChange revealHidesSpec)

/-- ITS FALSE NEIGHBOUR: 'it returns false'. Refute it at one input. -/
def revealHidesWrong : ChangeSpec := { name := "revealHides", fn := fun _ => fun
  | [d1, d2, d3, d4] => { results := [.lit (.bool false)], args := [d1, d2, d3, d4] }
  | _ => none }
def RevealHidesWrongFalsely : Prop := revealHidesRow.holds Tryz.pinned (OpenSpec.ofChange revealHidesWrong)

/- THE SECOND FORM. 'bulk': how many values and letters a reading holds, each counted each time it is reached (what is shared counts as often as it is met; a slice's spare places count too). A statement '..UptoSaid' is the law's where the arguments, and the package variables that the reading takes, are together of bulk at most 1048576: NARROWER than '..Said'. Prove '..Said' where nothing that the law and all that it calls make is longer than what came in: it says more and counts as full. Else prove '..UptoSaid'. A law counts once. -/
mutual
def uptoBulk {H : Type} : DataW H → Nat
  | .lit (.string bytes) => bytes.length + 1
  | .lit _ => 1
  | .nil => 1
  | .ptr d => uptoBulk d + 1
  | .slice elems spare => uptoBulkAll elems + uptoBulkAll spare + 1
  | .agg parts => uptoBulkAll parts + 1
  | .iface _ d => uptoBulk d + 1
  | .map entries => uptoBulkEntries entries + 1
  | .held _ => 1
def uptoBulkAll {H : Type} : List (DataW H) → Nat
  | [] => 0
  | d :: r => uptoBulk d + uptoBulkAll r
def uptoBulkEntries {H : Type} : List (Lit × DataW H) → Nat
  | [] => 0
  | x :: r => uptoBulkEntry x + uptoBulkEntries r
def uptoBulkEntry {H : Type} : Lit × DataW H → Nat
  | (.string bytes, d) => bytes.length + uptoBulk d + 1
  | (_, d) => uptoBulk d + 1
 end
def uptoSmall : (H : Type) → List (DataW H) → Bool := fun _ ds => decide (uptoBulkAll ds ≤ 1048576)
def OpenSpec.upto (s : _root_.Go.ChangeSpec) : _root_.Go.OpenSpec := { _root_.Go.OpenSpec.ofChange s with cond := some uptoSmall }

/-- 'colletlaw38.RevealForms', WHERE WHAT IT READS IS OF BULK AT MOST 1048576: true; the input reads as it did. -/
def revealFormsUptoRow : OpenClaim := { program := "ythfhaoogcpfboaagreat", sum := "4b8d9eaecca97a512f811d3489cb4c1ad424ed280f67109a73f8bbae91c6c081", func := "collet/colletlaw38.RevealForms", spec := "revealForms", inPlace := ["internal/abi.NoEscape"], unfollowed := true, recurses := true, plainKeys := false, apart := false, narrowed := true }
def RevealFormsUptoSaid : Prop := revealFormsUptoRow.holds Tryz.pinned (OpenSpec.upto revealFormsSpec)

/-- 'colletlaw38.RevealRoots', WHERE WHAT IT READS IS OF BULK AT MOST 1048576: true; the input reads as it did. -/
def revealRootsUptoRow : OpenClaim := { program := "ythfhaoogcpfboaagreat", sum := "4b8d9eaecca97a512f811d3489cb4c1ad424ed280f67109a73f8bbae91c6c081", func := "collet/colletlaw38.RevealRoots", spec := "revealRoots", inPlace := ["internal/abi.NoEscape"], unfollowed := true, recurses := true, plainKeys := false, apart := false, narrowed := true }
def RevealRootsUptoSaid : Prop := revealRootsUptoRow.holds Tryz.pinned (OpenSpec.upto revealRootsSpec)

/-- 'colletlaw38.RevealComposes', WHERE WHAT IT READS IS OF BULK AT MOST 1048576: true; the input reads as it did. -/
def revealComposesUptoRow : OpenClaim := { program := "ythfhaoogcpfboaagreat", sum := "4b8d9eaecca97a512f811d3489cb4c1ad424ed280f67109a73f8bbae91c6c081", func := "collet/colletlaw38.RevealComposes", spec := "revealComposes", inPlace := ["internal/abi.NoEscape"], unfollowed := true, recurses := true, plainKeys := false, apart := false, narrowed := true }
def RevealComposesUptoSaid : Prop := revealComposesUptoRow.holds Tryz.pinned (OpenSpec.upto revealComposesSpec)

/-- 'colletlaw38.RevealBinds', WHERE WHAT IT READS IS OF BULK AT MOST 1048576: true; the input reads as it did. -/
def revealBindsUptoRow : OpenClaim := { program := "ythfhaoogcpfboaagreat", sum := "4b8d9eaecca97a512f811d3489cb4c1ad424ed280f67109a73f8bbae91c6c081", func := "collet/colletlaw38.RevealBinds", spec := "revealBinds", inPlace := ["internal/abi.NoEscape"], unfollowed := true, recurses := true, plainKeys := false, apart := false, narrowed := true }
def RevealBindsUptoSaid : Prop := revealBindsUptoRow.holds Tryz.pinned (OpenSpec.upto revealBindsSpec)

/-- 'colletlaw38.RevealHides', WHERE WHAT IT READS IS OF BULK AT MOST 1048576: true; the input reads as it did. -/
def revealHidesUptoRow : OpenClaim := { program := "ythfhaoogcpfboaagreat", sum := "4b8d9eaecca97a512f811d3489cb4c1ad424ed280f67109a73f8bbae91c6c081", func := "collet/colletlaw38.RevealHides", spec := "revealHides", inPlace := ["internal/abi.NoEscape"], unfollowed := true, recurses := true, plainKeys := false, apart := false, narrowed := true }
def RevealHidesUptoSaid : Prop := revealHidesUptoRow.holds Tryz.pinned (OpenSpec.upto revealHidesSpec)

end Rows
end Go.Proofs.YthfhaoogcpfboaaGreat
