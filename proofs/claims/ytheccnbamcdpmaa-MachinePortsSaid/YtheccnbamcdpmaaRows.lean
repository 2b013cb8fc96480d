/-
  No cell of these rows narrows 'for every input' (looked for: loops, veiled, ifaces, maps, wideKeys, modest, calm, conditions, laid).
  DERIVED. THE GIVEN ROWS OF THIS SEAT. 6 by the template 'for every input the law returns true; each argument reads behind the call as it read before'; 0 by the template 'total and deterministic' (their statements: YtheccnbamcdpmaaTotals.lean).
  GIVEN WITH THE SEED: the statements are not yours to turn. If you find one false, say at which input.
  Laid BY PROGRAM, IN A SANDBOX (cutbox-rows.mjs): the forced cells as the released guide's own fill.sh prints them over the translation 87a3b3cf2de86f64… (all of the seat's roots in one cut). By AI agents, Wed Nov 11 2026. No macro, syntax, notation, axiom, sorry.
-/
import Derived.Test.YtheccnbamcdpmaaChecked
import GoSem.Claim
import GoSem.ClaimJoined
import GoSem.ClaimMapViews
import Derived.JoinedTies
import Derived.KernelRfl
namespace Go.Proofs.Ytheccnbamcdpmaa
/- THE CELL 'sum', in the pinned program and in every row, IS THE sha256 OF THE DUMP (.gsa) THAT YtheccnbamcdpmaaProg.lean LOADS. Nothing in Lean hashes anything: it is a label: what it is worth is what the hold of that sum in a sandbox is worth. -/
noncomputable def Try.pinned : Pinned := { name := "ytheccnbamcdpmaa", sum := "87a3b3cf2de86f647e7a2420cc5b8de11653e442965613a49b0d8adde073e410", checked := Try.checked }
namespace Rows
def none {H : Type} : Left H := { results := [], args := [] }

/-- 'rivetlaw06.MachineStops': WHATEVER THE INPUT: true; the input reads as it did. -/
def machineStopsSpec : ChangeSpec := { name := "machineStops", fn := fun _ => fun
  | [d1, d2] => { results := [.lit (.bool true)], args := [d1, d2] }
  | _ => none }
def machineStopsRow : OpenClaim := { program := "ytheccnbamcdpmaa", sum := "87a3b3cf2de86f647e7a2420cc5b8de11653e442965613a49b0d8adde073e410", func := "rivet/rivetlaw06.MachineStops", spec := "machineStops", unfollowed := true, recurses := true, apart := false }
def MachineStopsSaid : Prop := machineStopsRow.holds Try.pinned (OpenSpec.ofChange machineStopsSpec)

/-- ITS FALSE NEIGHBOUR: 'it returns false'. Refute it at one input. -/
def machineStopsWrong : ChangeSpec := { name := "machineStops", fn := fun _ => fun
  | [d1, d2] => { results := [.lit (.bool false)], args := [d1, d2] }
  | _ => none }
def MachineStopsWrongFalsely : Prop := machineStopsRow.holds Try.pinned (OpenSpec.ofChange machineStopsWrong)

/-- 'rivetlaw06.MachineOps': WHATEVER THE INPUT: true; the input reads as it did. -/
def machineOpsSpec : ChangeSpec := { name := "machineOps", fn := fun _ => fun
  | [d1, d2] => { results := [.lit (.bool true)], args := [d1, d2] }
  | _ => none }
def machineOpsRow : OpenClaim := { program := "ytheccnbamcdpmaa", sum := "87a3b3cf2de86f647e7a2420cc5b8de11653e442965613a49b0d8adde073e410", func := "rivet/rivetlaw06.MachineOps", spec := "machineOps", unfollowed := true, recurses := true, apart := false }
def MachineOpsSaid : Prop := machineOpsRow.holds Try.pinned (OpenSpec.ofChange machineOpsSpec)

/-- ITS FALSE NEIGHBOUR: 'it returns false'. Refute it at one input. -/
def machineOpsWrong : ChangeSpec := { name := "machineOps", fn := fun _ => fun
  | [d1, d2] => { results := [.lit (.bool false)], args := [d1, d2] }
  | _ => none }
def MachineOpsWrongFalsely : Prop := machineOpsRow.holds Try.pinned (OpenSpec.ofChange machineOpsWrong)

/-- 'rivetlaw06.MachineLinks': WHATEVER THE INPUT: true; the input reads as it did. -/
def machineLinksSpec : ChangeSpec := { name := "machineLinks", fn := fun _ => fun
  | [d1, d2, d3] => { results := [.lit (.bool true)], args := [d1, d2, d3] }
  | _ => none }
def machineLinksRow : OpenClaim := { program := "ytheccnbamcdpmaa", sum := "87a3b3cf2de86f647e7a2420cc5b8de11653e442965613a49b0d8adde073e410", func := "rivet/rivetlaw06.MachineLinks", spec := "machineLinks", unfollowed := true, recurses := true, apart := false }
def MachineLinksSaid : Prop := machineLinksRow.holds Try.pinned (OpenSpec.ofChange machineLinksSpec)

/-- ITS FALSE NEIGHBOUR: 'it returns false'. Refute it at one input. -/
def machineLinksWrong : ChangeSpec := { name := "machineLinks", fn := fun _ => fun
  | [d1, d2, d3] => { results := [.lit (.bool false)], args := [d1, d2, d3] }
  | _ => none }
def MachineLinksWrongFalsely : Prop := machineLinksRow.holds Try.pinned (OpenSpec.ofChange machineLinksWrong)

/-- 'rivetlaw06.MachineRuns': WHATEVER THE INPUT: true; the input reads as it did. -/
def machineRunsSpec : ChangeSpec := { name := "machineRuns", fn := fun _ => fun
  | [d1, d2, d3] => { results := [.lit (.bool true)], args := [d1, d2, d3] }
  | _ => none }
def machineRunsRow : OpenClaim := { program := "ytheccnbamcdpmaa", sum := "87a3b3cf2de86f647e7a2420cc5b8de11653e442965613a49b0d8adde073e410", func := "rivet/rivetlaw06.MachineRuns", spec := "machineRuns", unfollowed := true, recurses := true, apart := false }
def MachineRunsSaid : Prop := machineRunsRow.holds Try.pinned (OpenSpec.ofChange machineRunsSpec)

/-- ITS FALSE NEIGHBOUR: 'it returns false'. Refute it at one input. -/
def machineRunsWrong : ChangeSpec := { name := "machineRuns", fn := fun _ => fun
  | [d1, d2, d3] => { results := [.lit (.bool false)], args := [d1, d2, d3] }
  | _ => none }
def MachineRunsWrongFalsely : Prop := machineRunsRow.holds Try.pinned (OpenSpec.ofChange machineRunsWrong)

/-- 'rivetlaw06.MachineMoves': WHATEVER THE INPUT: true; the input reads as it did. -/
def machineMovesSpec : ChangeSpec := { name := "machineMoves", fn := fun _ => fun
  | [d1, d2, d3] => { results := [.lit (.bool true)], args := [d1, d2, d3] }
  | _ => none }
def machineMovesRow : OpenClaim := { program := "ytheccnbamcdpmaa", sum := "87a3b3cf2de86f647e7a2420cc5b8de11653e442965613a49b0d8adde073e410", func := "rivet/rivetlaw06.MachineMoves", spec := "machineMoves", unfollowed := true, recurses := true, apart := false }
def MachineMovesSaid : Prop := machineMovesRow.holds Try.pinned (OpenSpec.ofChange machineMovesSpec)

/-- ITS FALSE NEIGHBOUR: 'it returns false'. Refute it at one input. -/
def machineMovesWrong : ChangeSpec := { name := "machineMoves", fn := fun _ => fun
  | [d1, d2, d3] => { results := [.lit (.bool false)], args := [d1, d2, d3] }
  | _ => none }
def MachineMovesWrongFalsely : Prop := machineMovesRow.holds Try.pinned (OpenSpec.ofChange machineMovesWrong)

/-- 'rivetlaw06.MachinePorts': WHATEVER THE INPUT: true; the input reads as it did. -/
def machinePortsSpec : ChangeSpec := { name := "machinePorts", fn := fun _ => fun
  | [d] => { results := [.lit (.bool true)], args := [d] }
  | _ => none }
def machinePortsRow : OpenClaim := { program := "ytheccnbamcdpmaa", sum := "87a3b3cf2de86f647e7a2420cc5b8de11653e442965613a49b0d8adde073e410", func := "rivet/rivetlaw06.MachinePorts", spec := "machinePorts", unfollowed := true, recurses := true, apart := false }
def MachinePortsSaid : Prop := machinePortsRow.holds Try.pinned (OpenSpec.ofChange machinePortsSpec)

/-- ITS FALSE NEIGHBOUR: 'it returns false'. Refute it at one input. -/
def machinePortsWrong : ChangeSpec := { name := "machinePorts", fn := fun _ => fun
  | [d] => { results := [.lit (.bool false)], args := [d] }
  | _ => none }
def MachinePortsWrongFalsely : Prop := machinePortsRow.holds Try.pinned (OpenSpec.ofChange machinePortsWrong)

/- THE SECOND FORM. 'bulk': how many values and letters a reading holds, each counted each time it is reached (what is shared counts as often as it is met; a slice's spare places count too). A statement '..UptoSaid' is the law's where the arguments, and the package variables that the reading takes, are together of bulk at most 1048576: NARROWER than '..Said'. Prove '..Said' where nothing that the law and all that it calls make is longer than what came in: it says more and counts as full. Else prove '..UptoSaid'. A law counts once. -/
mutual
def uptoBulk {H : Type} : DataW H → Nat
  | .lit (.string bytes) => bytes.length + 1
  | .lit _ => 1
  | .nil => 1
  | .ptr d => uptoBulk d + 1
  | .slice elems spare => uptoBulkAll elems + uptoBulkAll spare + 1
  | .agg parts => uptoBulkAll parts + 1
  | .iface _ d => uptoBulk d + 1
  | .map entries => uptoBulkEntries entries + 1
  | .held _ => 1
def uptoBulkAll {H : Type} : List (DataW H) → Nat
  | [] => 0
  | d :: r => uptoBulk d + uptoBulkAll r
def uptoBulkEntries {H : Type} : List (Lit × DataW H) → Nat
  | [] => 0
  | x :: r => uptoBulkEntry x + uptoBulkEntries r
def uptoBulkEntry {H : Type} : Lit × DataW H → Nat
  | (.string bytes, d) => bytes.length + uptoBulk d + 1
  | (_, d) => uptoBulk d + 1
 end
def uptoSmall : (H : Type) → List (DataW H) → Bool := fun _ ds => decide (uptoBulkAll ds ≤ 1048576)
def OpenSpec.upto (s : _root_.Go.ChangeSpec) : _root_.Go.OpenSpec := { _root_.Go.OpenSpec.ofChange s with cond := some uptoSmall }

/-- 'rivetlaw06.MachineStops', WHERE WHAT IT READS IS OF BULK AT MOST 1048576: true; the input reads as it did. -/
def machineStopsUptoRow : OpenClaim := { program := "ytheccnbamcdpmaa", sum := "87a3b3cf2de86f647e7a2420cc5b8de11653e442965613a49b0d8adde073e410", func := "rivet/rivetlaw06.MachineStops", spec := "machineStops", unfollowed := true, recurses := true, apart := false, narrowed := true }
def MachineStopsUptoSaid : Prop := machineStopsUptoRow.holds Try.pinned (OpenSpec.upto machineStopsSpec)

/-- 'rivetlaw06.MachineOps', WHERE WHAT IT READS IS OF BULK AT MOST 1048576: true; the input reads as it did. -/
def machineOpsUptoRow : OpenClaim := { program := "ytheccnbamcdpmaa", sum := "87a3b3cf2de86f647e7a2420cc5b8de11653e442965613a49b0d8adde073e410", func := "rivet/rivetlaw06.MachineOps", spec := "machineOps", unfollowed := true, recurses := true, apart := false, narrowed := true }
def MachineOpsUptoSaid : Prop := machineOpsUptoRow.holds Try.pinned (OpenSpec.upto machineOpsSpec)

/-- 'rivetlaw06.MachineLinks', WHERE WHAT IT READS IS OF BULK AT MOST 1048576: true; the input reads as it did. -/
def machineLinksUptoRow : OpenClaim := { program := "ytheccnbamcdpmaa", sum := "87a3b3cf2de86f647e7a2420cc5b8de11653e442965613a49b0d8adde073e410", func := "rivet/rivetlaw06.MachineLinks", spec := "machineLinks", unfollowed := true, recurses := true, apart := false, narrowed := true }
def MachineLinksUptoSaid : Prop := machineLinksUptoRow.holds Try.pinned (OpenSpec.upto machineLinksSpec)

/-- 'rivetlaw06.MachineRuns', WHERE WHAT IT READS IS OF BULK AT MOST 1048576: true; the input reads as it did. -/
def machineRunsUptoRow : OpenClaim := { program := "ytheccnbamcdpmaa", sum := "87a3b3cf2de86f647e7a2420cc5b8de11653e442965613a49b0d8adde073e410", func := "rivet/rivetlaw06.MachineRuns", spec := "machineRuns", unfollowed := true, recurses := true, apart := false, narrowed := true }
def MachineRunsUptoSaid : Prop := machineRunsUptoRow.holds Try.pinned (OpenSpec.upto machineRunsSpec)

/-- 'rivetlaw06.MachineMoves', WHERE WHAT IT READS IS OF BULK AT MOST 1048576: true; the input reads as it did. -/
def machineMovesUptoRow : OpenClaim := { program := "ytheccnbamcdpmaa", sum := "87a3b3cf2de86f647e7a2420cc5b8de11653e442965613a49b0d8adde073e410", func := "rivet/rivetlaw06.MachineMoves", spec := "machineMoves", unfollowed := true, recurses := true, apart := false, narrowed := true }
def MachineMovesUptoSaid : Prop := machineMovesUptoRow.holds Try.pinned (OpenSpec.upto machineMovesSpec)

/-- 'rivetlaw06.MachinePorts', WHERE WHAT IT READS IS OF BULK AT MOST 1048576: true; the input reads as it did. -/
def machinePortsUptoRow : OpenClaim := { program := "ytheccnbamcdpmaa", sum := "87a3b3cf2de86f647e7a2420cc5b8de11653e442965613a49b0d8adde073e410", func := "rivet/rivetlaw06.MachinePorts", spec := "machinePorts", unfollowed := true, recurses := true, apart := false, narrowed := true }
def MachinePortsUptoSaid : Prop := machinePortsUptoRow.holds Try.pinned (OpenSpec.upto machinePortsSpec)

end Rows
end Go.Proofs.Ytheccnbamcdpmaa
