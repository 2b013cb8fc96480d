/-
  No cell of these rows narrows 'for every input' (looked for: loops, veiled, ifaces, maps, wideKeys, modest, calm, conditions, laid).
  DERIVED. THE GIVEN ROWS OF THIS SEAT. 7 by the template 'for every input the law returns true; each argument reads behind the call as it read before'; 0 by the template 'total and deterministic' (their statements: YtckefpenekolhaaTotals.lean).
  GIVEN WITH THE SEED: the statements are not yours to turn. If you find one false, say at which input.
  Laid BY PROGRAM, IN A SANDBOX (cutbox-rows.mjs): the forced cells as the released guide's own fill.sh prints them over the translation f7f842f28027057b… (all of the seat's roots in one cut). By AI agents, Wed Nov 11 2026. No macro, syntax, notation, axiom, sorry.
-/
import Derived.Test.YtckefpenekolhaaChecked
import GoSem.Claim
import GoSem.ClaimJoined
import GoSem.ClaimMapViews
import Derived.JoinedTies
import Derived.KernelRfl
namespace Go.Proofs.Ytckefpenekolhaa
/- THE CELL 'sum', in the pinned program and in every row, IS THE sha256 OF THE DUMP (.gsa) THAT YtckefpenekolhaaProg.lean LOADS. Nothing in Lean hashes anything: it is a label: what it is worth is what the hold of that sum in a sandbox is worth. -/
noncomputable def Try.pinned : Pinned := { name := "ytckefpenekolhaa", sum := "f7f842f28027057b33c3a2232b0393d50e19f531d1891add2255946bb0da08d5", checked := Try.checked }
namespace Rows
def none {H : Type} : Left H := { results := [], args := [] }

/-- 'rivetlaw04.AluKeeps': WHATEVER THE INPUT: true; the input reads as it did. -/
def aluKeepsSpec : ChangeSpec := { name := "aluKeeps", fn := fun _ => fun
  | [d1, d2] => { results := [.lit (.bool true)], args := [d1, d2] }
  | _ => none }
def aluKeepsRow : OpenClaim := { program := "ytckefpenekolhaa", sum := "f7f842f28027057b33c3a2232b0393d50e19f531d1891add2255946bb0da08d5", func := "rivet/rivetlaw04.AluKeeps", spec := "aluKeeps", unfollowed := true, recurses := true, apart := false }
def AluKeepsSaid : Prop := aluKeepsRow.holds Try.pinned (OpenSpec.ofChange aluKeepsSpec)

/-- ITS FALSE NEIGHBOUR: 'it returns false'. Refute it at one input. -/
def aluKeepsWrong : ChangeSpec := { name := "aluKeeps", fn := fun _ => fun
  | [d1, d2] => { results := [.lit (.bool false)], args := [d1, d2] }
  | _ => none }
def AluKeepsWrongFalsely : Prop := aluKeepsRow.holds Try.pinned (OpenSpec.ofChange aluKeepsWrong)

/-- 'rivetlaw04.AluSame': WHATEVER THE INPUT: true; the input reads as it did. -/
def aluSameSpec : ChangeSpec := { name := "aluSame", fn := fun _ => fun
  | [d1, d2, d3] => { results := [.lit (.bool true)], args := [d1, d2, d3] }
  | _ => none }
def aluSameRow : OpenClaim := { program := "ytckefpenekolhaa", sum := "f7f842f28027057b33c3a2232b0393d50e19f531d1891add2255946bb0da08d5", func := "rivet/rivetlaw04.AluSame", spec := "aluSame", unfollowed := true, recurses := true, apart := false }
def AluSameSaid : Prop := aluSameRow.holds Try.pinned (OpenSpec.ofChange aluSameSpec)

/-- ITS FALSE NEIGHBOUR: 'it returns false'. Refute it at one input. -/
def aluSameWrong : ChangeSpec := { name := "aluSame", fn := fun _ => fun
  | [d1, d2, d3] => { results := [.lit (.bool false)], args := [d1, d2, d3] }
  | _ => none }
def AluSameWrongFalsely : Prop := aluSameRow.holds Try.pinned (OpenSpec.ofChange aluSameWrong)

/-- 'rivetlaw04.AluBits': WHATEVER THE INPUT: true; the input reads as it did. -/
def aluBitsSpec : ChangeSpec := { name := "aluBits", fn := fun _ => fun
  | [d1, d2, d3] => { results := [.lit (.bool true)], args := [d1, d2, d3] }
  | _ => none }
def aluBitsRow : OpenClaim := { program := "ytckefpenekolhaa", sum := "f7f842f28027057b33c3a2232b0393d50e19f531d1891add2255946bb0da08d5", func := "rivet/rivetlaw04.AluBits", spec := "aluBits", unfollowed := true, recurses := true, apart := false }
def AluBitsSaid : Prop := aluBitsRow.holds Try.pinned (OpenSpec.ofChange aluBitsSpec)

/-- ITS FALSE NEIGHBOUR: 'it returns false'. Refute it at one input. -/
def aluBitsWrong : ChangeSpec := { name := "aluBits", fn := fun _ => fun
  | [d1, d2, d3] => { results := [.lit (.bool false)], args := [d1, d2, d3] }
  | _ => none }
def AluBitsWrongFalsely : Prop := aluBitsRow.holds Try.pinned (OpenSpec.ofChange aluBitsWrong)

/-- 'rivetlaw04.AluLong': WHATEVER THE INPUT: true; the input reads as it did. -/
def aluLongSpec : ChangeSpec := { name := "aluLong", fn := fun _ => fun
  | [d1, d2, d3] => { results := [.lit (.bool true)], args := [d1, d2, d3] }
  | _ => none }
def aluLongRow : OpenClaim := { program := "ytckefpenekolhaa", sum := "f7f842f28027057b33c3a2232b0393d50e19f531d1891add2255946bb0da08d5", func := "rivet/rivetlaw04.AluLong", spec := "aluLong", unfollowed := true, recurses := true, apart := false }
def AluLongSaid : Prop := aluLongRow.holds Try.pinned (OpenSpec.ofChange aluLongSpec)

/-- ITS FALSE NEIGHBOUR: 'it returns false'. Refute it at one input. -/
def aluLongWrong : ChangeSpec := { name := "aluLong", fn := fun _ => fun
  | [d1, d2, d3] => { results := [.lit (.bool false)], args := [d1, d2, d3] }
  | _ => none }
def AluLongWrongFalsely : Prop := aluLongRow.holds Try.pinned (OpenSpec.ofChange aluLongWrong)

/-- 'rivetlaw04.AluMoves': WHATEVER THE INPUT: true; the input reads as it did. -/
def aluMovesSpec : ChangeSpec := { name := "aluMoves", fn := fun _ => fun
  | [d1, d2, d3] => { results := [.lit (.bool true)], args := [d1, d2, d3] }
  | _ => none }
def aluMovesRow : OpenClaim := { program := "ytckefpenekolhaa", sum := "f7f842f28027057b33c3a2232b0393d50e19f531d1891add2255946bb0da08d5", func := "rivet/rivetlaw04.AluMoves", spec := "aluMoves", unfollowed := true, recurses := true, apart := false }
def AluMovesSaid : Prop := aluMovesRow.holds Try.pinned (OpenSpec.ofChange aluMovesSpec)

/-- ITS FALSE NEIGHBOUR: 'it returns false'. Refute it at one input. -/
def aluMovesWrong : ChangeSpec := { name := "aluMoves", fn := fun _ => fun
  | [d1, d2, d3] => { results := [.lit (.bool false)], args := [d1, d2, d3] }
  | _ => none }
def AluMovesWrongFalsely : Prop := aluMovesRow.holds Try.pinned (OpenSpec.ofChange aluMovesWrong)

/-- 'rivetlaw04.AluAll': WHATEVER THE INPUT: true; the input reads as it did. -/
def aluAllSpec : ChangeSpec := { name := "aluAll", fn := fun _ => fun
  | [d1, d2, d3] => { results := [.lit (.bool true)], args := [d1, d2, d3] }
  | _ => none }
def aluAllRow : OpenClaim := { program := "ytckefpenekolhaa", sum := "f7f842f28027057b33c3a2232b0393d50e19f531d1891add2255946bb0da08d5", func := "rivet/rivetlaw04.AluAll", spec := "aluAll", unfollowed := true, recurses := true, apart := false }
def AluAllSaid : Prop := aluAllRow.holds Try.pinned (OpenSpec.ofChange aluAllSpec)

/-- ITS FALSE NEIGHBOUR: 'it returns false'. Refute it at one input. -/
def aluAllWrong : ChangeSpec := { name := "aluAll", fn := fun _ => fun
  | [d1, d2, d3] => { results := [.lit (.bool false)], args := [d1, d2, d3] }
  | _ => none }
def AluAllWrongFalsely : Prop := aluAllRow.holds Try.pinned (OpenSpec.ofChange aluAllWrong)

/-- 'rivetlaw04.AluTests': WHATEVER THE INPUT: true; the input reads as it did. -/
def aluTestsSpec : ChangeSpec := { name := "aluTests", fn := fun _ => fun
  | [d1, d2, d3] => { results := [.lit (.bool true)], args := [d1, d2, d3] }
  | _ => none }
def aluTestsRow : OpenClaim := { program := "ytckefpenekolhaa", sum := "f7f842f28027057b33c3a2232b0393d50e19f531d1891add2255946bb0da08d5", func := "rivet/rivetlaw04.AluTests", spec := "aluTests", unfollowed := true, recurses := true, apart := false }
def AluTestsSaid : Prop := aluTestsRow.holds Try.pinned (OpenSpec.ofChange aluTestsSpec)

/-- ITS FALSE NEIGHBOUR: 'it returns false'. Refute it at one input. -/
def aluTestsWrong : ChangeSpec := { name := "aluTests", fn := fun _ => fun
  | [d1, d2, d3] => { results := [.lit (.bool false)], args := [d1, d2, d3] }
  | _ => none }
def AluTestsWrongFalsely : Prop := aluTestsRow.holds Try.pinned (OpenSpec.ofChange aluTestsWrong)

/- THE SECOND FORM. 'bulk': how many values and letters a reading holds, each counted each time it is reached (what is shared counts as often as it is met; a slice's spare places count too). A statement '..UptoSaid' is the law's where the arguments, and the package variables that the reading takes, are together of bulk at most 1048576: NARROWER than '..Said'. Prove '..Said' where nothing that the law and all that it calls make is longer than what came in: it says more and counts as full. Else prove '..UptoSaid'. A law counts once. -/
mutual
def uptoBulk {H : Type} : DataW H → Nat
  | .lit (.string bytes) => bytes.length + 1
  | .lit _ => 1
  | .nil => 1
  | .ptr d => uptoBulk d + 1
  | .slice elems spare => uptoBulkAll elems + uptoBulkAll spare + 1
  | .agg parts => uptoBulkAll parts + 1
  | .iface _ d => uptoBulk d + 1
  | .map entries => uptoBulkEntries entries + 1
  | .held _ => 1
def uptoBulkAll {H : Type} : List (DataW H) → Nat
  | [] => 0
  | d :: r => uptoBulk d + uptoBulkAll r
def uptoBulkEntries {H : Type} : List (Lit × DataW H) → Nat
  | [] => 0
  | x :: r => uptoBulkEntry x + uptoBulkEntries r
def uptoBulkEntry {H : Type} : Lit × DataW H → Nat
  | (.string bytes, d) => bytes.length + uptoBulk d + 1
  | (_, d) => uptoBulk d + 1
 end
def uptoSmall : (H : Type) → List (DataW H) → Bool := fun _ ds => decide (uptoBulkAll ds ≤ 1048576)
def OpenSpec.upto (s : _root_.Go.ChangeSpec) : _root_.Go.OpenSpec := { _root_.Go.OpenSpec.ofChange s with cond := some uptoSmall }

/-- 'rivetlaw04.AluKeeps', WHERE WHAT IT READS IS OF BULK AT MOST 1048576: true; the input reads as it did. -/
def aluKeepsUptoRow : OpenClaim := { program := "ytckefpenekolhaa", sum := "f7f842f28027057b33c3a2232b0393d50e19f531d1891add2255946bb0da08d5", func := "rivet/rivetlaw04.AluKeeps", spec := "aluKeeps", unfollowed := true, recurses := true, apart := false, narrowed := true }
def AluKeepsUptoSaid : Prop := aluKeepsUptoRow.holds Try.pinned (OpenSpec.upto aluKeepsSpec)

/-- 'rivetlaw04.AluSame', WHERE WHAT IT READS IS OF BULK AT MOST 1048576: true; the input reads as it did. -/
def aluSameUptoRow : OpenClaim := { program := "ytckefpenekolhaa", sum := "f7f842f28027057b33c3a2232b0393d50e19f531d1891add2255946bb0da08d5", func := "rivet/rivetlaw04.AluSame", spec := "aluSame", unfollowed := true, recurses := true, apart := false, narrowed := true }
def AluSameUptoSaid : Prop := aluSameUptoRow.holds Try.pinned (OpenSpec.upto aluSameSpec)

/-- 'rivetlaw04.AluBits', WHERE WHAT IT READS IS OF BULK AT MOST 1048576: true; the input reads as it did. -/
def aluBitsUptoRow : OpenClaim := { program := "ytckefpenekolhaa", sum := "f7f842f28027057b33c3a2232b0393d50e19f531d1891add2255946bb0da08d5", func := "rivet/rivetlaw04.AluBits", spec := "aluBits", unfollowed := true, recurses := true, apart := false, narrowed := true }
def AluBitsUptoSaid : Prop := aluBitsUptoRow.holds Try.pinned (OpenSpec.upto aluBitsSpec)

/-- 'rivetlaw04.AluLong', WHERE WHAT IT READS IS OF BULK AT MOST 1048576: true; the input reads as it did. -/
def aluLongUptoRow : OpenClaim := { program := "ytckefpenekolhaa", sum := "f7f842f28027057b33c3a2232b0393d50e19f531d1891add2255946bb0da08d5", func := "rivet/rivetlaw04.AluLong", spec := "aluLong", unfollowed := true, recurses := true, apart := false, narrowed := true }
def AluLongUptoSaid : Prop := aluLongUptoRow.holds Try.pinned (OpenSpec.upto aluLongSpec)

/-- 'rivetlaw04.AluMoves', WHERE WHAT IT READS IS OF BULK AT MOST 1048576: true; the input reads as it did. -/
def aluMovesUptoRow : OpenClaim := { program := "ytckefpenekolhaa", sum := "f7f842f28027057b33c3a2232b0393d50e19f531d1891add2255946bb0da08d5", func := "rivet/rivetlaw04.AluMoves", spec := "aluMoves", unfollowed := true, recurses := true, apart := false, narrowed := true }
def AluMovesUptoSaid : Prop := aluMovesUptoRow.holds Try.pinned (OpenSpec.upto aluMovesSpec)

/-- 'rivetlaw04.AluAll', WHERE WHAT IT READS IS OF BULK AT MOST 1048576: true; the input reads as it did. -/
def aluAllUptoRow : OpenClaim := { program := "ytckefpenekolhaa", sum := "f7f842f28027057b33c3a2232b0393d50e19f531d1891add2255946bb0da08d5", func := "rivet/rivetlaw04.AluAll", spec := "aluAll", unfollowed := true, recurses := true, apart := false, narrowed := true }
def AluAllUptoSaid : Prop := aluAllUptoRow.holds Try.pinned (OpenSpec.upto aluAllSpec)

/-- 'rivetlaw04.AluTests', WHERE WHAT IT READS IS OF BULK AT MOST 1048576: true; the input reads as it did. -/
def aluTestsUptoRow : OpenClaim := { program := "ytckefpenekolhaa", sum := "f7f842f28027057b33c3a2232b0393d50e19f531d1891add2255946bb0da08d5", func := "rivet/rivetlaw04.AluTests", spec := "aluTests", unfollowed := true, recurses := true, apart := false, narrowed := true }
def AluTestsUptoSaid : Prop := aluTestsUptoRow.holds Try.pinned (OpenSpec.upto aluTestsSpec)

end Rows
end Go.Proofs.Ytckefpenekolhaa
