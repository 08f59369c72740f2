/-
  No cell of these rows narrows 'for every input' (looked for: loops, veiled, ifaces, maps, wideKeys, modest, calm, conditions, laid).
  DERIVED. THE GIVEN ROWS OF THIS SEAT. 6 by the template 'for every input the law returns true; each argument reads behind the call as it read before'; 0 by the template 'total and deterministic' (their statements: YtigfcmcdjfmieaaTotals.lean).
  GIVEN WITH THE SEED: the statements are not yours to turn. If you find one false, say at which input.
  Laid BY PROGRAM, IN A SANDBOX (cutbox-rows.mjs): the forced cells as the released guide's own fill.sh prints them over the translation f01c42ff050a7ee3… (all of the seat's roots in one cut). By AI agents, Wed Nov 11 2026. No macro, syntax, notation, axiom, sorry.
-/
import Derived.Test.YtigfcmcdjfmieaaChecked
import GoSem.Claim
import GoSem.ClaimJoined
import GoSem.ClaimMapViews
import Derived.JoinedTies
import Derived.KernelRfl
namespace Go.Proofs.Ytigfcmcdjfmieaa
/- THE CELL 'sum', in the pinned program and in every row, IS THE sha256 OF THE DUMP (.gsa) THAT YtigfcmcdjfmieaaProg.lean LOADS. Nothing in Lean hashes anything: it is a label: what it is worth is what the hold of that sum in a sandbox is worth. -/
noncomputable def Try.pinned : Pinned := { name := "ytigfcmcdjfmieaa", sum := "f01c42ff050a7ee3cae03a713cc1c84e8b91890792591f79bd59980ff5926951", checked := Try.checked }
namespace Rows
def none {H : Type} : Left H := { results := [], args := [] }

/-- 'colletlaw34.ControlRuns': WHATEVER THE INPUT: true; the input reads as it did. -/
def controlRunsSpec : ChangeSpec := { name := "controlRuns", fn := fun _ => fun
  | [d1, d2, d3, d4, d5] => { results := [.lit (.bool true)], args := [d1, d2, d3, d4, d5] }
  | _ => none }
def controlRunsRow : OpenClaim := { program := "ytigfcmcdjfmieaa", sum := "f01c42ff050a7ee3cae03a713cc1c84e8b91890792591f79bd59980ff5926951", func := "collet/colletlaw34.ControlRuns", spec := "controlRuns", unfollowed := true, recurses := true, apart := false }
def ControlRunsSaid : Prop := controlRunsRow.holds Try.pinned (OpenSpec.ofChange controlRunsSpec)

/-- ITS FALSE NEIGHBOUR: 'it returns false'. Refute it at one input. -/
def controlRunsWrong : ChangeSpec := { name := "controlRuns", fn := fun _ => fun
  | [d1, d2, d3, d4, d5] => { results := [.lit (.bool false)], args := [d1, d2, d3, d4, d5] }
  | _ => none }
def ControlRunsWrongFalsely : Prop := controlRunsRow.holds Try.pinned (OpenSpec.ofChange controlRunsWrong)

/-- 'colletlaw34.ControlTrue': WHATEVER THE INPUT: true; the input reads as it did. -/
def controlTrueSpec : ChangeSpec := { name := "controlTrue", fn := fun _ => fun
  | [d1, d2] => { results := [.lit (.bool true)], args := [d1, d2] }
  | _ => none }
def controlTrueRow : OpenClaim := { program := "ytigfcmcdjfmieaa", sum := "f01c42ff050a7ee3cae03a713cc1c84e8b91890792591f79bd59980ff5926951", func := "collet/colletlaw34.ControlTrue", spec := "controlTrue", unfollowed := true, recurses := true, apart := false }
def ControlTrueSaid : Prop := controlTrueRow.holds Try.pinned (OpenSpec.ofChange controlTrueSpec)

/-- ITS FALSE NEIGHBOUR: 'it returns false'. Refute it at one input. -/
def controlTrueWrong : ChangeSpec := { name := "controlTrue", fn := fun _ => fun
  | [d1, d2] => { results := [.lit (.bool false)], args := [d1, d2] }
  | _ => none }
def ControlTrueWrongFalsely : Prop := controlTrueRow.holds Try.pinned (OpenSpec.ofChange controlTrueWrong)

/-- 'colletlaw34.ControlFeeds': WHATEVER THE INPUT: true; the input reads as it did. -/
def controlFeedsSpec : ChangeSpec := { name := "controlFeeds", fn := fun _ => fun
  | [d1, d2, d3] => { results := [.lit (.bool true)], args := [d1, d2, d3] }
  | _ => none }
def controlFeedsRow : OpenClaim := { program := "ytigfcmcdjfmieaa", sum := "f01c42ff050a7ee3cae03a713cc1c84e8b91890792591f79bd59980ff5926951", func := "collet/colletlaw34.ControlFeeds", spec := "controlFeeds", unfollowed := true, recurses := true, apart := false }
def ControlFeedsSaid : Prop := controlFeedsRow.holds Try.pinned (OpenSpec.ofChange controlFeedsSpec)

/-- ITS FALSE NEIGHBOUR: 'it returns false'. Refute it at one input. -/
def controlFeedsWrong : ChangeSpec := { name := "controlFeeds", fn := fun _ => fun
  | [d1, d2, d3] => { results := [.lit (.bool false)], args := [d1, d2, d3] }
  | _ => none }
def ControlFeedsWrongFalsely : Prop := controlFeedsRow.holds Try.pinned (OpenSpec.ofChange controlFeedsWrong)

/-- 'colletlaw34.ControlStops': WHATEVER THE INPUT: true; the input reads as it did. -/
def controlStopsSpec : ChangeSpec := { name := "controlStops", fn := fun _ => fun
  | [d1, d2, d3, d4] => { results := [.lit (.bool true)], args := [d1, d2, d3, d4] }
  | _ => none }
def controlStopsRow : OpenClaim := { program := "ytigfcmcdjfmieaa", sum := "f01c42ff050a7ee3cae03a713cc1c84e8b91890792591f79bd59980ff5926951", func := "collet/colletlaw34.ControlStops", spec := "controlStops", unfollowed := true, recurses := true, apart := false }
def ControlStopsSaid : Prop := controlStopsRow.holds Try.pinned (OpenSpec.ofChange controlStopsSpec)

/-- ITS FALSE NEIGHBOUR: 'it returns false'. Refute it at one input. -/
def controlStopsWrong : ChangeSpec := { name := "controlStops", fn := fun _ => fun
  | [d1, d2, d3, d4] => { results := [.lit (.bool false)], args := [d1, d2, d3, d4] }
  | _ => none }
def ControlStopsWrongFalsely : Prop := controlStopsRow.holds Try.pinned (OpenSpec.ofChange controlStopsWrong)

/-- 'colletlaw34.ControlBreaks': WHATEVER THE INPUT: true; the input reads as it did. -/
def controlBreaksSpec : ChangeSpec := { name := "controlBreaks", fn := fun _ => fun
  | [d1, d2, d3] => { results := [.lit (.bool true)], args := [d1, d2, d3] }
  | _ => none }
def controlBreaksRow : OpenClaim := { program := "ytigfcmcdjfmieaa", sum := "f01c42ff050a7ee3cae03a713cc1c84e8b91890792591f79bd59980ff5926951", func := "collet/colletlaw34.ControlBreaks", spec := "controlBreaks", unfollowed := true, recurses := true, apart := false }
def ControlBreaksSaid : Prop := controlBreaksRow.holds Try.pinned (OpenSpec.ofChange controlBreaksSpec)

/-- ITS FALSE NEIGHBOUR: 'it returns false'. Refute it at one input. -/
def controlBreaksWrong : ChangeSpec := { name := "controlBreaks", fn := fun _ => fun
  | [d1, d2, d3] => { results := [.lit (.bool false)], args := [d1, d2, d3] }
  | _ => none }
def ControlBreaksWrongFalsely : Prop := controlBreaksRow.holds Try.pinned (OpenSpec.ofChange controlBreaksWrong)

/-- 'colletlaw34.ControlNothing': WHATEVER THE INPUT: true; the input reads as it did. -/
def controlNothingSpec : ChangeSpec := { name := "controlNothing", fn := fun _ => fun
  | [d] => { results := [.lit (.bool true)], args := [d] }
  | _ => none }
def controlNothingRow : OpenClaim := { program := "ytigfcmcdjfmieaa", sum := "f01c42ff050a7ee3cae03a713cc1c84e8b91890792591f79bd59980ff5926951", func := "collet/colletlaw34.ControlNothing", spec := "controlNothing", unfollowed := true, recurses := true, apart := false }
def ControlNothingSaid : Prop := controlNothingRow.holds Try.pinned (OpenSpec.ofChange controlNothingSpec)

/-- ITS FALSE NEIGHBOUR: 'it returns false'. Refute it at one input. -/
def controlNothingWrong : ChangeSpec := { name := "controlNothing", fn := fun _ => fun
  | [d] => { results := [.lit (.bool false)], args := [d] }
  | _ => none }
def ControlNothingWrongFalsely : Prop := controlNothingRow.holds Try.pinned (OpenSpec.ofChange controlNothingWrong)

/- THE SECOND FORM. 'bulk': how many values and letters a reading holds, each counted each time it is reached (what is shared counts as often as it is met; a slice's spare places count too). A statement '..UptoSaid' is the law's where the arguments, and the package variables that the reading takes, are together of bulk at most 1048576: NARROWER than '..Said'. Prove '..Said' where nothing that the law and all that it calls make is longer than what came in: it says more and counts as full. Else prove '..UptoSaid'. A law counts once. -/
mutual
def uptoBulk {H : Type} : DataW H → Nat
  | .lit (.string bytes) => bytes.length + 1
  | .lit _ => 1
  | .nil => 1
  | .ptr d => uptoBulk d + 1
  | .slice elems spare => uptoBulkAll elems + uptoBulkAll spare + 1
  | .agg parts => uptoBulkAll parts + 1
  | .iface _ d => uptoBulk d + 1
  | .map entries => uptoBulkEntries entries + 1
  | .held _ => 1
def uptoBulkAll {H : Type} : List (DataW H) → Nat
  | [] => 0
  | d :: r => uptoBulk d + uptoBulkAll r
def uptoBulkEntries {H : Type} : List (Lit × DataW H) → Nat
  | [] => 0
  | x :: r => uptoBulkEntry x + uptoBulkEntries r
def uptoBulkEntry {H : Type} : Lit × DataW H → Nat
  | (.string bytes, d) => bytes.length + uptoBulk d + 1
  | (_, d) => uptoBulk d + 1
 end
def uptoSmall : (H : Type) → List (DataW H) → Bool := fun _ ds => decide (uptoBulkAll ds ≤ 1048576)
def OpenSpec.upto (s : _root_.Go.ChangeSpec) : _root_.Go.OpenSpec := { _root_.Go.OpenSpec.ofChange s with cond := some uptoSmall }

/-- 'colletlaw34.ControlRuns', WHERE WHAT IT READS IS OF BULK AT MOST 1048576: true; the input reads as it did. -/
def controlRunsUptoRow : OpenClaim := { program := "ytigfcmcdjfmieaa", sum := "f01c42ff050a7ee3cae03a713cc1c84e8b91890792591f79bd59980ff5926951", func := "collet/colletlaw34.ControlRuns", spec := "controlRuns", unfollowed := true, recurses := true, apart := false, narrowed := true }
def ControlRunsUptoSaid : Prop := controlRunsUptoRow.holds Try.pinned (OpenSpec.upto controlRunsSpec)

/-- 'colletlaw34.ControlTrue', WHERE WHAT IT READS IS OF BULK AT MOST 1048576: true; the input reads as it did. -/
def controlTrueUptoRow : OpenClaim := { program := "ytigfcmcdjfmieaa", sum := "f01c42ff050a7ee3cae03a713cc1c84e8b91890792591f79bd59980ff5926951", func := "collet/colletlaw34.ControlTrue", spec := "controlTrue", unfollowed := true, recurses := true, apart := false, narrowed := true }
def ControlTrueUptoSaid : Prop := controlTrueUptoRow.holds Try.pinned (OpenSpec.upto controlTrueSpec)

/-- 'colletlaw34.ControlFeeds', WHERE WHAT IT READS IS OF BULK AT MOST 1048576: true; the input reads as it did. -/
def controlFeedsUptoRow : OpenClaim := { program := "ytigfcmcdjfmieaa", sum := "f01c42ff050a7ee3cae03a713cc1c84e8b91890792591f79bd59980ff5926951", func := "collet/colletlaw34.ControlFeeds", spec := "controlFeeds", unfollowed := true, recurses := true, apart := false, narrowed := true }
def ControlFeedsUptoSaid : Prop := controlFeedsUptoRow.holds Try.pinned (OpenSpec.upto controlFeedsSpec)

/-- 'colletlaw34.ControlStops', WHERE WHAT IT READS IS OF BULK AT MOST 1048576: true; the input reads as it did. -/
def controlStopsUptoRow : OpenClaim := { program := "ytigfcmcdjfmieaa", sum := "f01c42ff050a7ee3cae03a713cc1c84e8b91890792591f79bd59980ff5926951", func := "collet/colletlaw34.ControlStops", spec := "controlStops", unfollowed := true, recurses := true, apart := false, narrowed := true }
def ControlStopsUptoSaid : Prop := controlStopsUptoRow.holds Try.pinned (OpenSpec.upto controlStopsSpec)

/-- 'colletlaw34.ControlBreaks', WHERE WHAT IT READS IS OF BULK AT MOST 1048576: true; the input reads as it did. -/
def controlBreaksUptoRow : OpenClaim := { program := "ytigfcmcdjfmieaa", sum := "f01c42ff050a7ee3cae03a713cc1c84e8b91890792591f79bd59980ff5926951", func := "collet/colletlaw34.ControlBreaks", spec := "controlBreaks", unfollowed := true, recurses := true, apart := false, narrowed := true }
def ControlBreaksUptoSaid : Prop := controlBreaksUptoRow.holds Try.pinned (OpenSpec.upto controlBreaksSpec)

/-- 'colletlaw34.ControlNothing', WHERE WHAT IT READS IS OF BULK AT MOST 1048576: true; the input reads as it did. -/
def controlNothingUptoRow : OpenClaim := { program := "ytigfcmcdjfmieaa", sum := "f01c42ff050a7ee3cae03a713cc1c84e8b91890792591f79bd59980ff5926951", func := "collet/colletlaw34.ControlNothing", spec := "controlNothing", unfollowed := true, recurses := true, apart := false, narrowed := true }
def ControlNothingUptoSaid : Prop := controlNothingUptoRow.holds Try.pinned (OpenSpec.upto controlNothingSpec)

end Rows
end Go.Proofs.Ytigfcmcdjfmieaa
