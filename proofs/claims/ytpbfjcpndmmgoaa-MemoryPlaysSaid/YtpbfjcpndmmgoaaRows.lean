/-
  No cell of these rows narrows 'for every input' (looked for: loops, veiled, ifaces, maps, wideKeys, modest, calm, conditions, laid).
  DERIVED. THE GIVEN ROWS OF THIS SEAT. 10 by the template 'for every input the law returns true; each argument reads behind the call as it read before'; 0 by the template 'total and deterministic' (their statements: YtpbfjcpndmmgoaaTotals.lean).
  GIVEN WITH THE SEED: the statements are not yours to turn. If you find one false, say at which input.
  Laid BY PROGRAM, IN A SANDBOX (cutbox-rows.mjs): the forced cells as the released guide's own fill.sh prints them over the translation 6f3417ab01031a76… (all of the seat's roots in one cut). By AI agents, Wed Nov 11 2026. No macro, syntax, notation, axiom, sorry.
-/
import Derived.Test.YtpbfjcpndmmgoaaChecked
import GoSem.Claim
import GoSem.ClaimJoined
import GoSem.ClaimMapViews
import Derived.JoinedTies
import Derived.KernelRfl
namespace Go.Proofs.Ytpbfjcpndmmgoaa
/- THE CELL 'sum', in the pinned program and in every row, IS THE sha256 OF THE DUMP (.gsa) THAT YtpbfjcpndmmgoaaProg.lean LOADS. Nothing in Lean hashes anything: it is a label: what it is worth is what the hold of that sum in a sandbox is worth. -/
noncomputable def Try.pinned : Pinned := { name := "ytpbfjcpndmmgoaa", sum := "6f3417ab01031a76d02e8f536e2fa432544c0862ebeb22a3362d370af0d7eb71", checked := Try.checked }
namespace Rows
def none {H : Type} : Left H := { results := [], args := [] }

/-- 'rivetlaw05.MemoryOwn': WHATEVER THE INPUT: true; the input reads as it did. -/
def memoryOwnSpec : ChangeSpec := { name := "memoryOwn", fn := fun _ => fun
  | [d1, d2] => { results := [.lit (.bool true)], args := [d1, d2] }
  | _ => none }
def memoryOwnRow : OpenClaim := { program := "ytpbfjcpndmmgoaa", sum := "6f3417ab01031a76d02e8f536e2fa432544c0862ebeb22a3362d370af0d7eb71", func := "rivet/rivetlaw05.MemoryOwn", spec := "memoryOwn", apart := false }
def MemoryOwnSaid : Prop := memoryOwnRow.holds Try.pinned (OpenSpec.ofChange memoryOwnSpec)

/-- ITS FALSE NEIGHBOUR: 'it returns false'. Refute it at one input. -/
def memoryOwnWrong : ChangeSpec := { name := "memoryOwn", fn := fun _ => fun
  | [d1, d2] => { results := [.lit (.bool false)], args := [d1, d2] }
  | _ => none }
def MemoryOwnWrongFalsely : Prop := memoryOwnRow.holds Try.pinned (OpenSpec.ofChange memoryOwnWrong)

/-- 'rivetlaw05.MemoryPlaces': WHATEVER THE INPUT: true; the input reads as it did. -/
def memoryPlacesSpec : ChangeSpec := { name := "memoryPlaces", fn := fun _ => fun
  | [d1, d2, d3] => { results := [.lit (.bool true)], args := [d1, d2, d3] }
  | _ => none }
def memoryPlacesRow : OpenClaim := { program := "ytpbfjcpndmmgoaa", sum := "6f3417ab01031a76d02e8f536e2fa432544c0862ebeb22a3362d370af0d7eb71", func := "rivet/rivetlaw05.MemoryPlaces", spec := "memoryPlaces", apart := false }
def MemoryPlacesSaid : Prop := memoryPlacesRow.holds Try.pinned (OpenSpec.ofChange memoryPlacesSpec)

/-- ITS FALSE NEIGHBOUR: 'it returns false'. Refute it at one input. -/
def memoryPlacesWrong : ChangeSpec := { name := "memoryPlaces", fn := fun _ => fun
  | [d1, d2, d3] => { results := [.lit (.bool false)], args := [d1, d2, d3] }
  | _ => none }
def MemoryPlacesWrongFalsely : Prop := memoryPlacesRow.holds Try.pinned (OpenSpec.ofChange memoryPlacesWrong)

/-- 'rivetlaw08.ChainAll': WHATEVER THE INPUT: true; the input reads as it did. -/
def chainAllSpec : ChangeSpec := { name := "chainAll", fn := fun _ => fun
  | [d1, d2, d3] => { results := [.lit (.bool true)], args := [d1, d2, d3] }
  | _ => none }
def chainAllRow : OpenClaim := { program := "ytpbfjcpndmmgoaa", sum := "6f3417ab01031a76d02e8f536e2fa432544c0862ebeb22a3362d370af0d7eb71", func := "rivet/rivetlaw08.ChainAll", spec := "chainAll", apart := false }
def ChainAllSaid : Prop := chainAllRow.holds Try.pinned (OpenSpec.ofChange chainAllSpec)

/-- ITS FALSE NEIGHBOUR: 'it returns false'. Refute it at one input. -/
def chainAllWrong : ChangeSpec := { name := "chainAll", fn := fun _ => fun
  | [d1, d2, d3] => { results := [.lit (.bool false)], args := [d1, d2, d3] }
  | _ => none }
def ChainAllWrongFalsely : Prop := chainAllRow.holds Try.pinned (OpenSpec.ofChange chainAllWrong)

/-- 'rivetlaw08.ChainBack': WHATEVER THE INPUT: true; the input reads as it did. -/
def chainBackSpec : ChangeSpec := { name := "chainBack", fn := fun _ => fun
  | [d1, d2] => { results := [.lit (.bool true)], args := [d1, d2] }
  | _ => none }
def chainBackRow : OpenClaim := { program := "ytpbfjcpndmmgoaa", sum := "6f3417ab01031a76d02e8f536e2fa432544c0862ebeb22a3362d370af0d7eb71", func := "rivet/rivetlaw08.ChainBack", spec := "chainBack", apart := false }
def ChainBackSaid : Prop := chainBackRow.holds Try.pinned (OpenSpec.ofChange chainBackSpec)

/-- ITS FALSE NEIGHBOUR: 'it returns false'. Refute it at one input. -/
def chainBackWrong : ChangeSpec := { name := "chainBack", fn := fun _ => fun
  | [d1, d2] => { results := [.lit (.bool false)], args := [d1, d2] }
  | _ => none }
def ChainBackWrongFalsely : Prop := chainBackRow.holds Try.pinned (OpenSpec.ofChange chainBackWrong)

/-- 'rivetlaw08.ChainTaken': WHATEVER THE INPUT: true; the input reads as it did. -/
def chainTakenSpec : ChangeSpec := { name := "chainTaken", fn := fun _ => fun
  | [d1, d2, d3] => { results := [.lit (.bool true)], args := [d1, d2, d3] }
  | _ => none }
def chainTakenRow : OpenClaim := { program := "ytpbfjcpndmmgoaa", sum := "6f3417ab01031a76d02e8f536e2fa432544c0862ebeb22a3362d370af0d7eb71", func := "rivet/rivetlaw08.ChainTaken", spec := "chainTaken", apart := false }
def ChainTakenSaid : Prop := chainTakenRow.holds Try.pinned (OpenSpec.ofChange chainTakenSpec)

/-- ITS FALSE NEIGHBOUR: 'it returns false'. Refute it at one input. -/
def chainTakenWrong : ChangeSpec := { name := "chainTaken", fn := fun _ => fun
  | [d1, d2, d3] => { results := [.lit (.bool false)], args := [d1, d2, d3] }
  | _ => none }
def ChainTakenWrongFalsely : Prop := chainTakenRow.holds Try.pinned (OpenSpec.ofChange chainTakenWrong)

/-- 'rivetlaw08.ChainEmpty': WHATEVER THE INPUT: true; the input reads as it did. -/
def chainEmptySpec : ChangeSpec := { name := "chainEmpty", fn := fun _ => fun
  | [d1, d2] => { results := [.lit (.bool true)], args := [d1, d2] }
  | _ => none }
def chainEmptyRow : OpenClaim := { program := "ytpbfjcpndmmgoaa", sum := "6f3417ab01031a76d02e8f536e2fa432544c0862ebeb22a3362d370af0d7eb71", func := "rivet/rivetlaw08.ChainEmpty", spec := "chainEmpty", apart := false }
def ChainEmptySaid : Prop := chainEmptyRow.holds Try.pinned (OpenSpec.ofChange chainEmptySpec)

/-- ITS FALSE NEIGHBOUR: 'it returns false'. Refute it at one input. -/
def chainEmptyWrong : ChangeSpec := { name := "chainEmpty", fn := fun _ => fun
  | [d1, d2] => { results := [.lit (.bool false)], args := [d1, d2] }
  | _ => none }
def ChainEmptyWrongFalsely : Prop := chainEmptyRow.holds Try.pinned (OpenSpec.ofChange chainEmptyWrong)

/-- 'rivetlaw08.ChainOne': WHATEVER THE INPUT: true; the input reads as it did. -/
def chainOneSpec : ChangeSpec := { name := "chainOne", fn := fun _ => fun
  | [d1, d2, d3] => { results := [.lit (.bool true)], args := [d1, d2, d3] }
  | _ => none }
def chainOneRow : OpenClaim := { program := "ytpbfjcpndmmgoaa", sum := "6f3417ab01031a76d02e8f536e2fa432544c0862ebeb22a3362d370af0d7eb71", func := "rivet/rivetlaw08.ChainOne", spec := "chainOne", apart := false }
def ChainOneSaid : Prop := chainOneRow.holds Try.pinned (OpenSpec.ofChange chainOneSpec)

/-- ITS FALSE NEIGHBOUR: 'it returns false'. Refute it at one input. -/
def chainOneWrong : ChangeSpec := { name := "chainOne", fn := fun _ => fun
  | [d1, d2, d3] => { results := [.lit (.bool false)], args := [d1, d2, d3] }
  | _ => none }
def ChainOneWrongFalsely : Prop := chainOneRow.holds Try.pinned (OpenSpec.ofChange chainOneWrong)

/-- 'rivetlaw05.MemoryPlays': WHATEVER THE INPUT: true; the input reads as it did. -/
def memoryPlaysSpec : ChangeSpec := { name := "memoryPlays", fn := fun _ => fun
  | [d1, d2, d3] => { results := [.lit (.bool true)], args := [d1, d2, d3] }
  | _ => none }
def memoryPlaysRow : OpenClaim := { program := "ytpbfjcpndmmgoaa", sum := "6f3417ab01031a76d02e8f536e2fa432544c0862ebeb22a3362d370af0d7eb71", func := "rivet/rivetlaw05.MemoryPlays", spec := "memoryPlays", apart := false }
def MemoryPlaysSaid : Prop := memoryPlaysRow.holds Try.pinned (OpenSpec.ofChange memoryPlaysSpec)

/-- ITS FALSE NEIGHBOUR: 'it returns false'. Refute it at one input. -/
def memoryPlaysWrong : ChangeSpec := { name := "memoryPlays", fn := fun _ => fun
  | [d1, d2, d3] => { results := [.lit (.bool false)], args := [d1, d2, d3] }
  | _ => none }
def MemoryPlaysWrongFalsely : Prop := memoryPlaysRow.holds Try.pinned (OpenSpec.ofChange memoryPlaysWrong)

/-- 'rivetlaw05.MemoryBack': WHATEVER THE INPUT: true; the input reads as it did. -/
def memoryBackSpec : ChangeSpec := { name := "memoryBack", fn := fun _ => fun
  | [d1, d2, d3] => { results := [.lit (.bool true)], args := [d1, d2, d3] }
  | _ => none }
def memoryBackRow : OpenClaim := { program := "ytpbfjcpndmmgoaa", sum := "6f3417ab01031a76d02e8f536e2fa432544c0862ebeb22a3362d370af0d7eb71", func := "rivet/rivetlaw05.MemoryBack", spec := "memoryBack", apart := false }
def MemoryBackSaid : Prop := memoryBackRow.holds Try.pinned (OpenSpec.ofChange memoryBackSpec)

/-- ITS FALSE NEIGHBOUR: 'it returns false'. Refute it at one input. -/
def memoryBackWrong : ChangeSpec := { name := "memoryBack", fn := fun _ => fun
  | [d1, d2, d3] => { results := [.lit (.bool false)], args := [d1, d2, d3] }
  | _ => none }
def MemoryBackWrongFalsely : Prop := memoryBackRow.holds Try.pinned (OpenSpec.ofChange memoryBackWrong)

/-- 'rivetlaw05.MemoryTraps': WHATEVER THE INPUT: true; the input reads as it did. -/
def memoryTrapsSpec : ChangeSpec := { name := "memoryTraps", fn := fun _ => fun
  | [d1, d2] => { results := [.lit (.bool true)], args := [d1, d2] }
  | _ => none }
def memoryTrapsRow : OpenClaim := { program := "ytpbfjcpndmmgoaa", sum := "6f3417ab01031a76d02e8f536e2fa432544c0862ebeb22a3362d370af0d7eb71", func := "rivet/rivetlaw05.MemoryTraps", spec := "memoryTraps", apart := false }
def MemoryTrapsSaid : Prop := memoryTrapsRow.holds Try.pinned (OpenSpec.ofChange memoryTrapsSpec)

/-- ITS FALSE NEIGHBOUR: 'it returns false'. Refute it at one input. -/
def memoryTrapsWrong : ChangeSpec := { name := "memoryTraps", fn := fun _ => fun
  | [d1, d2] => { results := [.lit (.bool false)], args := [d1, d2] }
  | _ => none }
def MemoryTrapsWrongFalsely : Prop := memoryTrapsRow.holds Try.pinned (OpenSpec.ofChange memoryTrapsWrong)

/- THE SECOND FORM. 'bulk': how many values and letters a reading holds, each counted each time it is reached (what is shared counts as often as it is met; a slice's spare places count too). A statement '..UptoSaid' is the law's where the arguments, and the package variables that the reading takes, are together of bulk at most 1048576: NARROWER than '..Said'. Prove '..Said' where nothing that the law and all that it calls make is longer than what came in: it says more and counts as full. Else prove '..UptoSaid'. A law counts once. -/
mutual
def uptoBulk {H : Type} : DataW H → Nat
  | .lit (.string bytes) => bytes.length + 1
  | .lit _ => 1
  | .nil => 1
  | .ptr d => uptoBulk d + 1
  | .slice elems spare => uptoBulkAll elems + uptoBulkAll spare + 1
  | .agg parts => uptoBulkAll parts + 1
  | .iface _ d => uptoBulk d + 1
  | .map entries => uptoBulkEntries entries + 1
  | .held _ => 1
def uptoBulkAll {H : Type} : List (DataW H) → Nat
  | [] => 0
  | d :: r => uptoBulk d + uptoBulkAll r
def uptoBulkEntries {H : Type} : List (Lit × DataW H) → Nat
  | [] => 0
  | x :: r => uptoBulkEntry x + uptoBulkEntries r
def uptoBulkEntry {H : Type} : Lit × DataW H → Nat
  | (.string bytes, d) => bytes.length + uptoBulk d + 1
  | (_, d) => uptoBulk d + 1
 end
def uptoSmall : (H : Type) → List (DataW H) → Bool := fun _ ds => decide (uptoBulkAll ds ≤ 1048576)
def OpenSpec.upto (s : _root_.Go.ChangeSpec) : _root_.Go.OpenSpec := { _root_.Go.OpenSpec.ofChange s with cond := some uptoSmall }

/-- 'rivetlaw05.MemoryOwn', WHERE WHAT IT READS IS OF BULK AT MOST 1048576: true; the input reads as it did. -/
def memoryOwnUptoRow : OpenClaim := { program := "ytpbfjcpndmmgoaa", sum := "6f3417ab01031a76d02e8f536e2fa432544c0862ebeb22a3362d370af0d7eb71", func := "rivet/rivetlaw05.MemoryOwn", spec := "memoryOwn", apart := false, narrowed := true }
def MemoryOwnUptoSaid : Prop := memoryOwnUptoRow.holds Try.pinned (OpenSpec.upto memoryOwnSpec)

/-- 'rivetlaw05.MemoryPlaces', WHERE WHAT IT READS IS OF BULK AT MOST 1048576: true; the input reads as it did. -/
def memoryPlacesUptoRow : OpenClaim := { program := "ytpbfjcpndmmgoaa", sum := "6f3417ab01031a76d02e8f536e2fa432544c0862ebeb22a3362d370af0d7eb71", func := "rivet/rivetlaw05.MemoryPlaces", spec := "memoryPlaces", apart := false, narrowed := true }
def MemoryPlacesUptoSaid : Prop := memoryPlacesUptoRow.holds Try.pinned (OpenSpec.upto memoryPlacesSpec)

/-- 'rivetlaw08.ChainAll', WHERE WHAT IT READS IS OF BULK AT MOST 1048576: true; the input reads as it did. -/
def chainAllUptoRow : OpenClaim := { program := "ytpbfjcpndmmgoaa", sum := "6f3417ab01031a76d02e8f536e2fa432544c0862ebeb22a3362d370af0d7eb71", func := "rivet/rivetlaw08.ChainAll", spec := "chainAll", apart := false, narrowed := true }
def ChainAllUptoSaid : Prop := chainAllUptoRow.holds Try.pinned (OpenSpec.upto chainAllSpec)

/-- 'rivetlaw08.ChainBack', WHERE WHAT IT READS IS OF BULK AT MOST 1048576: true; the input reads as it did. -/
def chainBackUptoRow : OpenClaim := { program := "ytpbfjcpndmmgoaa", sum := "6f3417ab01031a76d02e8f536e2fa432544c0862ebeb22a3362d370af0d7eb71", func := "rivet/rivetlaw08.ChainBack", spec := "chainBack", apart := false, narrowed := true }
def ChainBackUptoSaid : Prop := chainBackUptoRow.holds Try.pinned (OpenSpec.upto chainBackSpec)

/-- 'rivetlaw08.ChainTaken', WHERE WHAT IT READS IS OF BULK AT MOST 1048576: true; the input reads as it did. -/
def chainTakenUptoRow : OpenClaim := { program := "ytpbfjcpndmmgoaa", sum := "6f3417ab01031a76d02e8f536e2fa432544c0862ebeb22a3362d370af0d7eb71", func := "rivet/rivetlaw08.ChainTaken", spec := "chainTaken", apart := false, narrowed := true }
def ChainTakenUptoSaid : Prop := chainTakenUptoRow.holds Try.pinned (OpenSpec.upto chainTakenSpec)

/-- 'rivetlaw08.ChainEmpty', WHERE WHAT IT READS IS OF BULK AT MOST 1048576: true; the input reads as it did. -/
def chainEmptyUptoRow : OpenClaim := { program := "ytpbfjcpndmmgoaa", sum := "6f3417ab01031a76d02e8f536e2fa432544c0862ebeb22a3362d370af0d7eb71", func := "rivet/rivetlaw08.ChainEmpty", spec := "chainEmpty", apart := false, narrowed := true }
def ChainEmptyUptoSaid : Prop := chainEmptyUptoRow.holds Try.pinned (OpenSpec.upto chainEmptySpec)

/-- 'rivetlaw08.ChainOne', WHERE WHAT IT READS IS OF BULK AT MOST 1048576: true; the input reads as it did. -/
def chainOneUptoRow : OpenClaim := { program := "ytpbfjcpndmmgoaa", sum := "6f3417ab01031a76d02e8f536e2fa432544c0862ebeb22a3362d370af0d7eb71", func := "rivet/rivetlaw08.ChainOne", spec := "chainOne", apart := false, narrowed := true }
def ChainOneUptoSaid : Prop := chainOneUptoRow.holds Try.pinned (OpenSpec.upto chainOneSpec)

/-- 'rivetlaw05.MemoryPlays', WHERE WHAT IT READS IS OF BULK AT MOST 1048576: true; the input reads as it did. -/
def memoryPlaysUptoRow : OpenClaim := { program := "ytpbfjcpndmmgoaa", sum := "6f3417ab01031a76d02e8f536e2fa432544c0862ebeb22a3362d370af0d7eb71", func := "rivet/rivetlaw05.MemoryPlays", spec := "memoryPlays", apart := false, narrowed := true }
def MemoryPlaysUptoSaid : Prop := memoryPlaysUptoRow.holds Try.pinned (OpenSpec.upto memoryPlaysSpec)

/-- 'rivetlaw05.MemoryBack', WHERE WHAT IT READS IS OF BULK AT MOST 1048576: true; the input reads as it did. -/
def memoryBackUptoRow : OpenClaim := { program := "ytpbfjcpndmmgoaa", sum := "6f3417ab01031a76d02e8f536e2fa432544c0862ebeb22a3362d370af0d7eb71", func := "rivet/rivetlaw05.MemoryBack", spec := "memoryBack", apart := false, narrowed := true }
def MemoryBackUptoSaid : Prop := memoryBackUptoRow.holds Try.pinned (OpenSpec.upto memoryBackSpec)

/-- 'rivetlaw05.MemoryTraps', WHERE WHAT IT READS IS OF BULK AT MOST 1048576: true; the input reads as it did. -/
def memoryTrapsUptoRow : OpenClaim := { program := "ytpbfjcpndmmgoaa", sum := "6f3417ab01031a76d02e8f536e2fa432544c0862ebeb22a3362d370af0d7eb71", func := "rivet/rivetlaw05.MemoryTraps", spec := "memoryTraps", apart := false, narrowed := true }
def MemoryTrapsUptoSaid : Prop := memoryTrapsUptoRow.holds Try.pinned (OpenSpec.upto memoryTrapsSpec)

end Rows
end Go.Proofs.Ytpbfjcpndmmgoaa
