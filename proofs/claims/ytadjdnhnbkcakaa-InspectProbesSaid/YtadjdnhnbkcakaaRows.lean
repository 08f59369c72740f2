/-
  No cell of these rows narrows 'for every input' (looked for: loops, veiled, ifaces, maps, wideKeys, modest, calm, conditions, laid).
  DERIVED. THE GIVEN ROWS OF THIS SEAT. 12 by the template 'for every input the law returns true; each argument reads behind the call as it read before'; 0 by the template 'total and deterministic' (their statements: YtadjdnhnbkcakaaTotals.lean).
  GIVEN WITH THE SEED: the statements are not yours to turn. If you find one false, say at which input.
  Laid BY PROGRAM, IN A SANDBOX (cutbox-rows.mjs): the forced cells as the released guide's own fill.sh prints them over the translation 8e752e80455e9d61… (all of the seat's roots in one cut). By AI agents, Wed Nov 11 2026. No macro, syntax, notation, axiom, sorry.
-/
import Derived.Test.YtadjdnhnbkcakaaChecked
import GoSem.Claim
import GoSem.ClaimJoined
import GoSem.ClaimMapViews
import Derived.JoinedTies
import Derived.KernelRfl
namespace Go.Proofs.Ytadjdnhnbkcakaa
/- THE CELL 'sum', in the pinned program and in every row, IS THE sha256 OF THE DUMP (.gsa) THAT YtadjdnhnbkcakaaProg.lean LOADS. Nothing in Lean hashes anything: it is a label: what it is worth is what the hold of that sum in a sandbox is worth. -/
noncomputable def Try.pinned : Pinned := { name := "ytadjdnhnbkcakaa", sum := "8e752e80455e9d612eeca9fb470a53e44f3963f0ded7d13416b29f7457eef11e", checked := Try.checked }
namespace Rows
def none {H : Type} : Left H := { results := [], args := [] }

/-- 'colletlaw21.ProbeNarrows': WHATEVER THE INPUT: true; the input reads as it did. -/
def probeNarrowsSpec : ChangeSpec := { name := "probeNarrows", fn := fun _ => fun
  | [d1, d2, d3, d4, d5] => { results := [.lit (.bool true)], args := [d1, d2, d3, d4, d5] }
  | _ => none }
def probeNarrowsRow : OpenClaim := { program := "ytadjdnhnbkcakaa", sum := "8e752e80455e9d612eeca9fb470a53e44f3963f0ded7d13416b29f7457eef11e", func := "collet/colletlaw21.ProbeNarrows", spec := "probeNarrows", unfollowed := true, recurses := true, apart := false }
def ProbeNarrowsSaid : Prop := probeNarrowsRow.holds Try.pinned (OpenSpec.ofChange probeNarrowsSpec)

/-- ITS FALSE NEIGHBOUR: 'it returns false'. Refute it at one input. -/
def probeNarrowsWrong : ChangeSpec := { name := "probeNarrows", fn := fun _ => fun
  | [d1, d2, d3, d4, d5] => { results := [.lit (.bool false)], args := [d1, d2, d3, d4, d5] }
  | _ => none }
def ProbeNarrowsWrongFalsely : Prop := probeNarrowsRow.holds Try.pinned (OpenSpec.ofChange probeNarrowsWrong)

/-- 'colletlaw21.ProbeAgrees': WHATEVER THE INPUT: true; the input reads as it did. -/
def probeAgreesSpec : ChangeSpec := { name := "probeAgrees", fn := fun _ => fun
  | [d1, d2, d3, d4] => { results := [.lit (.bool true)], args := [d1, d2, d3, d4] }
  | _ => none }
def probeAgreesRow : OpenClaim := { program := "ytadjdnhnbkcakaa", sum := "8e752e80455e9d612eeca9fb470a53e44f3963f0ded7d13416b29f7457eef11e", func := "collet/colletlaw21.ProbeAgrees", spec := "probeAgrees", unfollowed := true, recurses := true, apart := false }
def ProbeAgreesSaid : Prop := probeAgreesRow.holds Try.pinned (OpenSpec.ofChange probeAgreesSpec)

/-- ITS FALSE NEIGHBOUR: 'it returns false'. Refute it at one input. -/
def probeAgreesWrong : ChangeSpec := { name := "probeAgrees", fn := fun _ => fun
  | [d1, d2, d3, d4] => { results := [.lit (.bool false)], args := [d1, d2, d3, d4] }
  | _ => none }
def ProbeAgreesWrongFalsely : Prop := probeAgreesRow.holds Try.pinned (OpenSpec.ofChange probeAgreesWrong)

/-- 'colletlaw21.ProbeTruth': WHATEVER THE INPUT: true; the input reads as it did. -/
def probeTruthSpec : ChangeSpec := { name := "probeTruth", fn := fun _ => fun
  | [d1, d2, d3] => { results := [.lit (.bool true)], args := [d1, d2, d3] }
  | _ => none }
def probeTruthRow : OpenClaim := { program := "ytadjdnhnbkcakaa", sum := "8e752e80455e9d612eeca9fb470a53e44f3963f0ded7d13416b29f7457eef11e", func := "collet/colletlaw21.ProbeTruth", spec := "probeTruth", unfollowed := true, recurses := true, apart := false }
def ProbeTruthSaid : Prop := probeTruthRow.holds Try.pinned (OpenSpec.ofChange probeTruthSpec)

/-- ITS FALSE NEIGHBOUR: 'it returns false'. Refute it at one input. -/
def probeTruthWrong : ChangeSpec := { name := "probeTruth", fn := fun _ => fun
  | [d1, d2, d3] => { results := [.lit (.bool false)], args := [d1, d2, d3] }
  | _ => none }
def ProbeTruthWrongFalsely : Prop := probeTruthRow.holds Try.pinned (OpenSpec.ofChange probeTruthWrong)

/-- 'colletlaw21.ProbeTight': WHATEVER THE INPUT: true; the input reads as it did. -/
def probeTightSpec : ChangeSpec := { name := "probeTight", fn := fun _ => fun
  | [d] => { results := [.lit (.bool true)], args := [d] }
  | _ => none }
def probeTightRow : OpenClaim := { program := "ytadjdnhnbkcakaa", sum := "8e752e80455e9d612eeca9fb470a53e44f3963f0ded7d13416b29f7457eef11e", func := "collet/colletlaw21.ProbeTight", spec := "probeTight", unfollowed := true, recurses := true, apart := false }
def ProbeTightSaid : Prop := probeTightRow.holds Try.pinned (OpenSpec.ofChange probeTightSpec)

/-- ITS FALSE NEIGHBOUR: 'it returns false'. Refute it at one input. -/
def probeTightWrong : ChangeSpec := { name := "probeTight", fn := fun _ => fun
  | [d] => { results := [.lit (.bool false)], args := [d] }
  | _ => none }
def ProbeTightWrongFalsely : Prop := probeTightRow.holds Try.pinned (OpenSpec.ofChange probeTightWrong)

/-- 'colletlaw21.ProbeOrder': WHATEVER THE INPUT: true; the input reads as it did. -/
def probeOrderSpec : ChangeSpec := { name := "probeOrder", fn := fun _ => fun
  | [d1, d2] => { results := [.lit (.bool true)], args := [d1, d2] }
  | _ => none }
def probeOrderRow : OpenClaim := { program := "ytadjdnhnbkcakaa", sum := "8e752e80455e9d612eeca9fb470a53e44f3963f0ded7d13416b29f7457eef11e", func := "collet/colletlaw21.ProbeOrder", spec := "probeOrder", unfollowed := true, recurses := true, apart := false }
def ProbeOrderSaid : Prop := probeOrderRow.holds Try.pinned (OpenSpec.ofChange probeOrderSpec)

/-- ITS FALSE NEIGHBOUR: 'it returns false'. Refute it at one input. -/
def probeOrderWrong : ChangeSpec := { name := "probeOrder", fn := fun _ => fun
  | [d1, d2] => { results := [.lit (.bool false)], args := [d1, d2] }
  | _ => none }
def ProbeOrderWrongFalsely : Prop := probeOrderRow.holds Try.pinned (OpenSpec.ofChange probeOrderWrong)

/-- 'colletlaw21.ProbeParts': WHATEVER THE INPUT: true; the input reads as it did. -/
def probePartsSpec : ChangeSpec := { name := "probeParts", fn := fun _ => fun
  | [d1, d2, d3] => { results := [.lit (.bool true)], args := [d1, d2, d3] }
  | _ => none }
def probePartsRow : OpenClaim := { program := "ytadjdnhnbkcakaa", sum := "8e752e80455e9d612eeca9fb470a53e44f3963f0ded7d13416b29f7457eef11e", func := "collet/colletlaw21.ProbeParts", spec := "probeParts", unfollowed := true, recurses := true, apart := false }
def ProbePartsSaid : Prop := probePartsRow.holds Try.pinned (OpenSpec.ofChange probePartsSpec)

/-- ITS FALSE NEIGHBOUR: 'it returns false'. Refute it at one input. -/
def probePartsWrong : ChangeSpec := { name := "probeParts", fn := fun _ => fun
  | [d1, d2, d3] => { results := [.lit (.bool false)], args := [d1, d2, d3] }
  | _ => none }
def ProbePartsWrongFalsely : Prop := probePartsRow.holds Try.pinned (OpenSpec.ofChange probePartsWrong)

/-- 'colletlaw42.InspectCells': WHATEVER THE INPUT: true; the input reads as it did. -/
def inspectCellsSpec : ChangeSpec := { name := "inspectCells", fn := fun _ => fun
  | [d1, d2, d3, d4] => { results := [.lit (.bool true)], args := [d1, d2, d3, d4] }
  | _ => none }
def inspectCellsRow : OpenClaim := { program := "ytadjdnhnbkcakaa", sum := "8e752e80455e9d612eeca9fb470a53e44f3963f0ded7d13416b29f7457eef11e", func := "collet/colletlaw42.InspectCells", spec := "inspectCells", apart := false }
def InspectCellsSaid : Prop := inspectCellsRow.holds Try.pinned (OpenSpec.ofChange inspectCellsSpec)

/-- ITS FALSE NEIGHBOUR: 'it returns false'. Refute it at one input. -/
def inspectCellsWrong : ChangeSpec := { name := "inspectCells", fn := fun _ => fun
  | [d1, d2, d3, d4] => { results := [.lit (.bool false)], args := [d1, d2, d3, d4] }
  | _ => none }
def InspectCellsWrongFalsely : Prop := inspectCellsRow.holds Try.pinned (OpenSpec.ofChange inspectCellsWrong)

/-- 'colletlaw42.InspectVerdicts': WHATEVER THE INPUT: true; the input reads as it did. -/
def inspectVerdictsSpec : ChangeSpec := { name := "inspectVerdicts", fn := fun _ => fun
  | [d1, d2, d3, d4, d5, d6] => { results := [.lit (.bool true)], args := [d1, d2, d3, d4, d5, d6] }
  | _ => none }
def inspectVerdictsRow : OpenClaim := { program := "ytadjdnhnbkcakaa", sum := "8e752e80455e9d612eeca9fb470a53e44f3963f0ded7d13416b29f7457eef11e", func := "collet/colletlaw42.InspectVerdicts", spec := "inspectVerdicts", apart := false }
def InspectVerdictsSaid : Prop := inspectVerdictsRow.holds Try.pinned (OpenSpec.ofChange inspectVerdictsSpec)

/-- ITS FALSE NEIGHBOUR: 'it returns false'. Refute it at one input. -/
def inspectVerdictsWrong : ChangeSpec := { name := "inspectVerdicts", fn := fun _ => fun
  | [d1, d2, d3, d4, d5, d6] => { results := [.lit (.bool false)], args := [d1, d2, d3, d4, d5, d6] }
  | _ => none }
def InspectVerdictsWrongFalsely : Prop := inspectVerdictsRow.holds Try.pinned (OpenSpec.ofChange inspectVerdictsWrong)

/-- 'colletlaw42.InspectTruth': WHATEVER THE INPUT: true; the input reads as it did. -/
def inspectTruthSpec : ChangeSpec := { name := "inspectTruth", fn := fun _ => fun
  | [d1, d2, d3, d4] => { results := [.lit (.bool true)], args := [d1, d2, d3, d4] }
  | _ => none }
def inspectTruthRow : OpenClaim := { program := "ytadjdnhnbkcakaa", sum := "8e752e80455e9d612eeca9fb470a53e44f3963f0ded7d13416b29f7457eef11e", func := "collet/colletlaw42.InspectTruth", spec := "inspectTruth", apart := false }
def InspectTruthSaid : Prop := inspectTruthRow.holds Try.pinned (OpenSpec.ofChange inspectTruthSpec)

/-- ITS FALSE NEIGHBOUR: 'it returns false'. Refute it at one input. -/
def inspectTruthWrong : ChangeSpec := { name := "inspectTruth", fn := fun _ => fun
  | [d1, d2, d3, d4] => { results := [.lit (.bool false)], args := [d1, d2, d3, d4] }
  | _ => none }
def InspectTruthWrongFalsely : Prop := inspectTruthRow.holds Try.pinned (OpenSpec.ofChange inspectTruthWrong)

/-- 'colletlaw42.InspectAll': WHATEVER THE INPUT: true; the input reads as it did. -/
def inspectAllSpec : ChangeSpec := { name := "inspectAll", fn := fun _ => fun
  | [d1, d2] => { results := [.lit (.bool true)], args := [d1, d2] }
  | _ => none }
def inspectAllRow : OpenClaim := { program := "ytadjdnhnbkcakaa", sum := "8e752e80455e9d612eeca9fb470a53e44f3963f0ded7d13416b29f7457eef11e", func := "collet/colletlaw42.InspectAll", spec := "inspectAll", apart := false }
def InspectAllSaid : Prop := inspectAllRow.holds Try.pinned (OpenSpec.ofChange inspectAllSpec)

/-- ITS FALSE NEIGHBOUR: 'it returns false'. Refute it at one input. -/
def inspectAllWrong : ChangeSpec := { name := "inspectAll", fn := fun _ => fun
  | [d1, d2] => { results := [.lit (.bool false)], args := [d1, d2] }
  | _ => none }
def InspectAllWrongFalsely : Prop := inspectAllRow.holds Try.pinned (OpenSpec.ofChange inspectAllWrong)

/-- 'colletlaw42.InspectTurned': WHATEVER THE INPUT: true; the input reads as it did. -/
def inspectTurnedSpec : ChangeSpec := { name := "inspectTurned", fn := fun _ => fun
  | [d] => { results := [.lit (.bool true)], args := [d] }
  | _ => none }
def inspectTurnedRow : OpenClaim := { program := "ytadjdnhnbkcakaa", sum := "8e752e80455e9d612eeca9fb470a53e44f3963f0ded7d13416b29f7457eef11e", func := "collet/colletlaw42.InspectTurned", spec := "inspectTurned", apart := false }
def InspectTurnedSaid : Prop := inspectTurnedRow.holds Try.pinned (OpenSpec.ofChange inspectTurnedSpec)

/-- ITS FALSE NEIGHBOUR: 'it returns false'. Refute it at one input. -/
def inspectTurnedWrong : ChangeSpec := { name := "inspectTurned", fn := fun _ => fun
  | [d] => { results := [.lit (.bool false)], args := [d] }
  | _ => none }
def InspectTurnedWrongFalsely : Prop := inspectTurnedRow.holds Try.pinned (OpenSpec.ofChange inspectTurnedWrong)

/-- 'colletlaw42.InspectProbes': WHATEVER THE INPUT: true; the input reads as it did. -/
def inspectProbesSpec : ChangeSpec := { name := "inspectProbes", fn := fun _ => fun
  | [d] => { results := [.lit (.bool true)], args := [d] }
  | _ => none }
def inspectProbesRow : OpenClaim := { program := "ytadjdnhnbkcakaa", sum := "8e752e80455e9d612eeca9fb470a53e44f3963f0ded7d13416b29f7457eef11e", func := "collet/colletlaw42.InspectProbes", spec := "inspectProbes", unfollowed := true, recurses := true, apart := false }
def InspectProbesSaid : Prop := inspectProbesRow.holds Try.pinned (OpenSpec.ofChange inspectProbesSpec)

/-- ITS FALSE NEIGHBOUR: 'it returns false'. Refute it at one input. -/
def inspectProbesWrong : ChangeSpec := { name := "inspectProbes", fn := fun _ => fun
  | [d] => { results := [.lit (.bool false)], args := [d] }
  | _ => none }
def InspectProbesWrongFalsely : Prop := inspectProbesRow.holds Try.pinned (OpenSpec.ofChange inspectProbesWrong)

/- THE SECOND FORM. 'bulk': how many values and letters a reading holds, each counted each time it is reached (what is shared counts as often as it is met; a slice's spare places count too). A statement '..UptoSaid' is the law's where the arguments, and the package variables that the reading takes, are together of bulk at most 1048576: NARROWER than '..Said'. Prove '..Said' where nothing that the law and all that it calls make is longer than what came in: it says more and counts as full. Else prove '..UptoSaid'. A law counts once. -/
mutual
def uptoBulk {H : Type} : DataW H → Nat
  | .lit (.string bytes) => bytes.length + 1
  | .lit _ => 1
  | .nil => 1
  | .ptr d => uptoBulk d + 1
  | .slice elems spare => uptoBulkAll elems + uptoBulkAll spare + 1
  | .agg parts => uptoBulkAll parts + 1
  | .iface _ d => uptoBulk d + 1
  | .map entries => uptoBulkEntries entries + 1
  | .held _ => 1
def uptoBulkAll {H : Type} : List (DataW H) → Nat
  | [] => 0
  | d :: r => uptoBulk d + uptoBulkAll r
def uptoBulkEntries {H : Type} : List (Lit × DataW H) → Nat
  | [] => 0
  | x :: r => uptoBulkEntry x + uptoBulkEntries r
def uptoBulkEntry {H : Type} : Lit × DataW H → Nat
  | (.string bytes, d) => bytes.length + uptoBulk d + 1
  | (_, d) => uptoBulk d + 1
 end
def uptoSmall : (H : Type) → List (DataW H) → Bool := fun _ ds => decide (uptoBulkAll ds ≤ 1048576)
def OpenSpec.upto (s : _root_.Go.ChangeSpec) : _root_.Go.OpenSpec := { _root_.Go.OpenSpec.ofChange s with cond := some uptoSmall }

/-- 'colletlaw21.ProbeNarrows', WHERE WHAT IT READS IS OF BULK AT MOST 1048576: true; the input reads as it did. -/
def probeNarrowsUptoRow : OpenClaim := { program := "ytadjdnhnbkcakaa", sum := "8e752e80455e9d612eeca9fb470a53e44f3963f0ded7d13416b29f7457eef11e", func := "collet/colletlaw21.ProbeNarrows", spec := "probeNarrows", unfollowed := true, recurses := true, apart := false, narrowed := true }
def ProbeNarrowsUptoSaid : Prop := probeNarrowsUptoRow.holds Try.pinned (OpenSpec.upto probeNarrowsSpec)

/-- 'colletlaw21.ProbeAgrees', WHERE WHAT IT READS IS OF BULK AT MOST 1048576: true; the input reads as it did. -/
def probeAgreesUptoRow : OpenClaim := { program := "ytadjdnhnbkcakaa", sum := "8e752e80455e9d612eeca9fb470a53e44f3963f0ded7d13416b29f7457eef11e", func := "collet/colletlaw21.ProbeAgrees", spec := "probeAgrees", unfollowed := true, recurses := true, apart := false, narrowed := true }
def ProbeAgreesUptoSaid : Prop := probeAgreesUptoRow.holds Try.pinned (OpenSpec.upto probeAgreesSpec)

/-- 'colletlaw21.ProbeTruth', WHERE WHAT IT READS IS OF BULK AT MOST 1048576: true; the input reads as it did. -/
def probeTruthUptoRow : OpenClaim := { program := "ytadjdnhnbkcakaa", sum := "8e752e80455e9d612eeca9fb470a53e44f3963f0ded7d13416b29f7457eef11e", func := "collet/colletlaw21.ProbeTruth", spec := "probeTruth", unfollowed := true, recurses := true, apart := false, narrowed := true }
def ProbeTruthUptoSaid : Prop := probeTruthUptoRow.holds Try.pinned (OpenSpec.upto probeTruthSpec)

/-- 'colletlaw21.ProbeTight', WHERE WHAT IT READS IS OF BULK AT MOST 1048576: true; the input reads as it did. -/
def probeTightUptoRow : OpenClaim := { program := "ytadjdnhnbkcakaa", sum := "8e752e80455e9d612eeca9fb470a53e44f3963f0ded7d13416b29f7457eef11e", func := "collet/colletlaw21.ProbeTight", spec := "probeTight", unfollowed := true, recurses := true, apart := false, narrowed := true }
def ProbeTightUptoSaid : Prop := probeTightUptoRow.holds Try.pinned (OpenSpec.upto probeTightSpec)

/-- 'colletlaw21.ProbeOrder', WHERE WHAT IT READS IS OF BULK AT MOST 1048576: true; the input reads as it did. -/
def probeOrderUptoRow : OpenClaim := { program := "ytadjdnhnbkcakaa", sum := "8e752e80455e9d612eeca9fb470a53e44f3963f0ded7d13416b29f7457eef11e", func := "collet/colletlaw21.ProbeOrder", spec := "probeOrder", unfollowed := true, recurses := true, apart := false, narrowed := true }
def ProbeOrderUptoSaid : Prop := probeOrderUptoRow.holds Try.pinned (OpenSpec.upto probeOrderSpec)

/-- 'colletlaw21.ProbeParts', WHERE WHAT IT READS IS OF BULK AT MOST 1048576: true; the input reads as it did. -/
def probePartsUptoRow : OpenClaim := { program := "ytadjdnhnbkcakaa", sum := "8e752e80455e9d612eeca9fb470a53e44f3963f0ded7d13416b29f7457eef11e", func := "collet/colletlaw21.ProbeParts", spec := "probeParts", unfollowed := true, recurses := true, apart := false, narrowed := true }
def ProbePartsUptoSaid : Prop := probePartsUptoRow.holds Try.pinned (OpenSpec.upto probePartsSpec)

/-- 'colletlaw42.InspectCells', WHERE WHAT IT READS IS OF BULK AT MOST 1048576: true; the input reads as it did. -/
def inspectCellsUptoRow : OpenClaim := { program := "ytadjdnhnbkcakaa", sum := "8e752e80455e9d612eeca9fb470a53e44f3963f0ded7d13416b29f7457eef11e", func := "collet/colletlaw42.InspectCells", spec := "inspectCells", apart := false, narrowed := true }
def InspectCellsUptoSaid : Prop := inspectCellsUptoRow.holds Try.pinned (OpenSpec.upto inspectCellsSpec)

/-- 'colletlaw42.InspectVerdicts', WHERE WHAT IT READS IS OF BULK AT MOST 1048576: true; the input reads as it did. -/
def inspectVerdictsUptoRow : OpenClaim := { program := "ytadjdnhnbkcakaa", sum := "8e752e80455e9d612eeca9fb470a53e44f3963f0ded7d13416b29f7457eef11e", func := "collet/colletlaw42.InspectVerdicts", spec := "inspectVerdicts", apart := false, narrowed := true }
def InspectVerdictsUptoSaid : Prop := inspectVerdictsUptoRow.holds Try.pinned (OpenSpec.upto inspectVerdictsSpec)

/-- 'colletlaw42.InspectTruth', WHERE WHAT IT READS IS OF BULK AT MOST 1048576: true; the input reads as it did. -/
def inspectTruthUptoRow : OpenClaim := { program := "ytadjdnhnbkcakaa", sum := "8e752e80455e9d612eeca9fb470a53e44f3963f0ded7d13416b29f7457eef11e", func := "collet/colletlaw42.InspectTruth", spec := "inspectTruth", apart := false, narrowed := true }
def InspectTruthUptoSaid : Prop := inspectTruthUptoRow.holds Try.pinned (OpenSpec.upto inspectTruthSpec)

/-- 'colletlaw42.InspectAll', WHERE WHAT IT READS IS OF BULK AT MOST 1048576: true; the input reads as it did. -/
def inspectAllUptoRow : OpenClaim := { program := "ytadjdnhnbkcakaa", sum := "8e752e80455e9d612eeca9fb470a53e44f3963f0ded7d13416b29f7457eef11e", func := "collet/colletlaw42.InspectAll", spec := "inspectAll", apart := false, narrowed := true }
def InspectAllUptoSaid : Prop := inspectAllUptoRow.holds Try.pinned (OpenSpec.upto inspectAllSpec)

/-- 'colletlaw42.InspectTurned', WHERE WHAT IT READS IS OF BULK AT MOST 1048576: true; the input reads as it did. -/
def inspectTurnedUptoRow : OpenClaim := { program := "ytadjdnhnbkcakaa", sum := "8e752e80455e9d612eeca9fb470a53e44f3963f0ded7d13416b29f7457eef11e", func := "collet/colletlaw42.InspectTurned", spec := "inspectTurned", apart := false, narrowed := true }
def InspectTurnedUptoSaid : Prop := inspectTurnedUptoRow.holds Try.pinned (OpenSpec.upto inspectTurnedSpec)

/-- 'colletlaw42.InspectProbes', WHERE WHAT IT READS IS OF BULK AT MOST 1048576: true; the input reads as it did. -/
def inspectProbesUptoRow : OpenClaim := { program := "ytadjdnhnbkcakaa", sum := "8e752e80455e9d612eeca9fb470a53e44f3963f0ded7d13416b29f7457eef11e", func := "collet/colletlaw42.InspectProbes", spec := "inspectProbes", unfollowed := true, recurses := true, apart := false, narrowed := true }
def InspectProbesUptoSaid : Prop := inspectProbesUptoRow.holds Try.pinned (OpenSpec.upto inspectProbesSpec)

end Rows
end Go.Proofs.Ytadjdnhnbkcakaa
