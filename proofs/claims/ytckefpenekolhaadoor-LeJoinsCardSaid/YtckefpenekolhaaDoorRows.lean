/-
  NARROWER THAN 'FOR EVERY INPUT', by the rows' own cells (each row's printed sentence says how): LeNames: laid · LeAll: laid · LeBack: laid · LeTaken: laid · LeJoins: laid.
  DERIVED. THE GIVEN ROWS OF THIS SEAT. 5 by the template 'for every input the law returns true; each argument reads behind the call as it read before'; 0 by the template 'total and deterministic' (their statements: YtckefpenekolhaaDoorTotals.lean).
  GIVEN WITH THE SEED: the statements are not yours to turn. If you find one false, say at which input.
  Laid BY PROGRAM, IN A SANDBOX (cutbox-rows.mjs): the forced cells as the released guide's own fill.sh prints them over the translation 53fd05bf0d0a49ab… (all of the seat's roots in one cut). By AI agents, Wed Nov 11 2026. No macro, syntax, notation, axiom, sorry.
-/
import Derived.Test.YtckefpenekolhaaDoorChecked
import GoSem.PinnedTables
import GoSem.Claim
import GoSem.ClaimJoined
import GoSem.ClaimMapViews
import Derived.JoinedTies
import Derived.KernelRfl
namespace Go.Proofs.YtckefpenekolhaaDoor
/- THE CELL 'sum', in the pinned program and in every row, IS THE sha256 OF THE DUMP (.gsa) THAT YtckefpenekolhaaDoorProg.lean LOADS. Nothing in Lean hashes anything: it is a label: what it is worth is what the hold of that sum in a sandbox is worth. -/
noncomputable def Tryd.pinned : Pinned := { name := "ytckefpenekolhaadoor", sum := "53fd05bf0d0a49ab59a70fa1fa92b31cddd79b4698bcaeada164ecf6bc661e0f", checked := Tryd.checked }
namespace Rows
def none {H : Type} : Left H := { results := [], args := [] }

/- WHAT THE LISTED PACKAGE-LEVEL VARIABLES READ AS WHEN THE CALL BEGINS. Each datum BY PROGRAM (the guide's laid-datum.mjs) off the statement by which the dump's own 'gosem.cut.vars' lays the variable. In a bare row this is a premise. The card (YtckefpenekolhaaDoorCards.lean) ties it to the program's text. -/
def laid_unicode_utf8_acceptRanges {H : Type} : DataW H := .agg [.agg [.lit (.int .u8 128), .lit (.int .u8 191)], .agg [.lit (.int .u8 160), .lit (.int .u8 191)], .agg [.lit (.int .u8 128), .lit (.int .u8 159)], .agg [.lit (.int .u8 144), .lit (.int .u8 191)], .agg [.lit (.int .u8 128), .lit (.int .u8 143)], .agg [.lit (.int .u8 0), .lit (.int .u8 0)], .agg [.lit (.int .u8 0), .lit (.int .u8 0)], .agg [.lit (.int .u8 0), .lit (.int .u8 0)], .agg [.lit (.int .u8 0), .lit (.int .u8 0)], .agg [.lit (.int .u8 0), .lit (.int .u8 0)], .agg [.lit (.int .u8 0), .lit (.int .u8 0)], .agg [.lit (.int .u8 0), .lit (.int .u8 0)], .agg [.lit (.int .u8 0), .lit (.int .u8 0)], .agg [.lit (.int .u8 0), .lit (.int .u8 0)], .agg [.lit (.int .u8 0), .lit (.int .u8 0)], .agg [.lit (.int .u8 0), .lit (.int .u8 0)]]
/-- One of Go's own tables, pinned by name: the form's constant. -/
def laid_unicode_utf8_first : DataW Unit := Go.Pinned.utf8First

/-- 'rivetlaw07.LeNames': WHATEVER THE INPUT: true; the input reads as it did. -/
def leNamesSpec : ChangeSpec := { name := "leNames", fn := fun _ => fun
  | [d1, d2] => { results := [.lit (.bool true)], args := [d1, d2] }
  | _ => none }
def leNamesRow : OpenClaim := { program := "ytckefpenekolhaadoor", sum := "53fd05bf0d0a49ab59a70fa1fa92b31cddd79b4698bcaeada164ecf6bc661e0f", func := "rivet/rivetlaw07.LeNames", spec := "leNames", inPlace := ["internal/bytealg.IndexByteString", "internal/bytealg.IndexString"], named := ["unicode/utf8.first", "unicode/utf8.acceptRanges", "internal/bytealg.MaxLen"], apart := false, laid := [("unicode/utf8.acceptRanges", laid_unicode_utf8_acceptRanges), ("unicode/utf8.first", laid_unicode_utf8_first)] }
def LeNamesSaid : Prop := leNamesRow.holds Tryd.pinned (OpenSpec.ofChange leNamesSpec)

/-- ITS FALSE NEIGHBOUR: 'it returns false'. Refute it at one input. -/
def leNamesWrong : ChangeSpec := { name := "leNames", fn := fun _ => fun
  | [d1, d2] => { results := [.lit (.bool false)], args := [d1, d2] }
  | _ => none }
def LeNamesWrongFalsely : Prop := leNamesRow.holds Tryd.pinned (OpenSpec.ofChange leNamesWrong)

/-- 'rivetlaw07.LeAll': WHATEVER THE INPUT: true; the input reads as it did. -/
def leAllSpec : ChangeSpec := { name := "leAll", fn := fun _ => fun
  | [d1, d2, d3] => { results := [.lit (.bool true)], args := [d1, d2, d3] }
  | _ => none }
def leAllRow : OpenClaim := { program := "ytckefpenekolhaadoor", sum := "53fd05bf0d0a49ab59a70fa1fa92b31cddd79b4698bcaeada164ecf6bc661e0f", func := "rivet/rivetlaw07.LeAll", spec := "leAll", inPlace := ["internal/bytealg.IndexByteString", "internal/bytealg.IndexString"], named := ["unicode/utf8.first", "unicode/utf8.acceptRanges", "internal/bytealg.MaxLen"], apart := false, laid := [("unicode/utf8.acceptRanges", laid_unicode_utf8_acceptRanges), ("unicode/utf8.first", laid_unicode_utf8_first)] }
def LeAllSaid : Prop := leAllRow.holds Tryd.pinned (OpenSpec.ofChange leAllSpec)

/-- ITS FALSE NEIGHBOUR: 'it returns false'. Refute it at one input. -/
def leAllWrong : ChangeSpec := { name := "leAll", fn := fun _ => fun
  | [d1, d2, d3] => { results := [.lit (.bool false)], args := [d1, d2, d3] }
  | _ => none }
def LeAllWrongFalsely : Prop := leAllRow.holds Tryd.pinned (OpenSpec.ofChange leAllWrong)

/-- 'rivetlaw07.LeBack': WHATEVER THE INPUT: true; the input reads as it did. -/
def leBackSpec : ChangeSpec := { name := "leBack", fn := fun _ => fun
  | [d1, d2, d3] => { results := [.lit (.bool true)], args := [d1, d2, d3] }
  | _ => none }
def leBackRow : OpenClaim := { program := "ytckefpenekolhaadoor", sum := "53fd05bf0d0a49ab59a70fa1fa92b31cddd79b4698bcaeada164ecf6bc661e0f", func := "rivet/rivetlaw07.LeBack", spec := "leBack", inPlace := ["internal/bytealg.IndexByteString", "internal/bytealg.IndexString"], named := ["unicode/utf8.first", "unicode/utf8.acceptRanges", "internal/bytealg.MaxLen"], apart := false, laid := [("unicode/utf8.acceptRanges", laid_unicode_utf8_acceptRanges), ("unicode/utf8.first", laid_unicode_utf8_first)] }
def LeBackSaid : Prop := leBackRow.holds Tryd.pinned (OpenSpec.ofChange leBackSpec)

/-- ITS FALSE NEIGHBOUR: 'it returns false'. Refute it at one input. -/
def leBackWrong : ChangeSpec := { name := "leBack", fn := fun _ => fun
  | [d1, d2, d3] => { results := [.lit (.bool false)], args := [d1, d2, d3] }
  | _ => none }
def LeBackWrongFalsely : Prop := leBackRow.holds Tryd.pinned (OpenSpec.ofChange leBackWrong)

/-- 'rivetlaw07.LeTaken': WHATEVER THE INPUT: true; the input reads as it did. -/
def leTakenSpec : ChangeSpec := { name := "leTaken", fn := fun _ => fun
  | [d1, d2] => { results := [.lit (.bool true)], args := [d1, d2] }
  | _ => none }
def leTakenRow : OpenClaim := { program := "ytckefpenekolhaadoor", sum := "53fd05bf0d0a49ab59a70fa1fa92b31cddd79b4698bcaeada164ecf6bc661e0f", func := "rivet/rivetlaw07.LeTaken", spec := "leTaken", inPlace := ["internal/bytealg.IndexByteString", "internal/bytealg.IndexString"], named := ["unicode/utf8.first", "unicode/utf8.acceptRanges", "internal/bytealg.MaxLen"], apart := false, laid := [("unicode/utf8.acceptRanges", laid_unicode_utf8_acceptRanges), ("unicode/utf8.first", laid_unicode_utf8_first)] }
def LeTakenSaid : Prop := leTakenRow.holds Tryd.pinned (OpenSpec.ofChange leTakenSpec)

/-- ITS FALSE NEIGHBOUR: 'it returns false'. Refute it at one input. -/
def leTakenWrong : ChangeSpec := { name := "leTaken", fn := fun _ => fun
  | [d1, d2] => { results := [.lit (.bool false)], args := [d1, d2] }
  | _ => none }
def LeTakenWrongFalsely : Prop := leTakenRow.holds Tryd.pinned (OpenSpec.ofChange leTakenWrong)

/-- 'rivetlaw07.LeJoins': WHATEVER THE INPUT: true; the input reads as it did. -/
def leJoinsSpec : ChangeSpec := { name := "leJoins", fn := fun _ => fun
  | [d1, d2, d3] => { results := [.lit (.bool true)], args := [d1, d2, d3] }
  | _ => none }
def leJoinsRow : OpenClaim := { program := "ytckefpenekolhaadoor", sum := "53fd05bf0d0a49ab59a70fa1fa92b31cddd79b4698bcaeada164ecf6bc661e0f", func := "rivet/rivetlaw07.LeJoins", spec := "leJoins", inPlace := ["internal/bytealg.IndexByteString", "internal/bytealg.IndexString"], named := ["unicode/utf8.first", "unicode/utf8.acceptRanges", "internal/bytealg.MaxLen"], apart := false, laid := [("unicode/utf8.acceptRanges", laid_unicode_utf8_acceptRanges), ("unicode/utf8.first", laid_unicode_utf8_first)] }
def LeJoinsSaid : Prop := leJoinsRow.holds Tryd.pinned (OpenSpec.ofChange leJoinsSpec)

/-- ITS FALSE NEIGHBOUR: 'it returns false'. Refute it at one input. -/
def leJoinsWrong : ChangeSpec := { name := "leJoins", fn := fun _ => fun
  | [d1, d2, d3] => { results := [.lit (.bool false)], args := [d1, d2, d3] }
  | _ => none }
def LeJoinsWrongFalsely : Prop := leJoinsRow.holds Tryd.pinned (OpenSpec.ofChange leJoinsWrong)

/- THE SECOND FORM. 'bulk': how many values and letters a reading holds, each counted each time it is reached (what is shared counts as often as it is met; a slice's spare places count too). A statement '..UptoSaid' is the law's where the arguments, and the package variables that the reading takes, are together of bulk at most 1048576: NARROWER than '..Said'. Prove '..Said' where nothing that the law and all that it calls make is longer than what came in: it says more and counts as full. Else prove '..UptoSaid'. A law counts once. -/
mutual
def uptoBulk {H : Type} : DataW H → Nat
  | .lit (.string bytes) => bytes.length + 1
  | .lit _ => 1
  | .nil => 1
  | .ptr d => uptoBulk d + 1
  | .slice elems spare => uptoBulkAll elems + uptoBulkAll spare + 1
  | .agg parts => uptoBulkAll parts + 1
  | .iface _ d => uptoBulk d + 1
  | .map entries => uptoBulkEntries entries + 1
  | .held _ => 1
def uptoBulkAll {H : Type} : List (DataW H) → Nat
  | [] => 0
  | d :: r => uptoBulk d + uptoBulkAll r
def uptoBulkEntries {H : Type} : List (Lit × DataW H) → Nat
  | [] => 0
  | x :: r => uptoBulkEntry x + uptoBulkEntries r
def uptoBulkEntry {H : Type} : Lit × DataW H → Nat
  | (.string bytes, d) => bytes.length + uptoBulk d + 1
  | (_, d) => uptoBulk d + 1
 end
def uptoSmall : (H : Type) → List (DataW H) → Bool := fun _ ds => decide (uptoBulkAll ds ≤ 1048576)
def OpenSpec.upto (s : _root_.Go.ChangeSpec) : _root_.Go.OpenSpec := { _root_.Go.OpenSpec.ofChange s with cond := some uptoSmall }

/-- 'rivetlaw07.LeNames', WHERE WHAT IT READS IS OF BULK AT MOST 1048576: true; the input reads as it did. -/
def leNamesUptoRow : OpenClaim := { program := "ytckefpenekolhaadoor", sum := "53fd05bf0d0a49ab59a70fa1fa92b31cddd79b4698bcaeada164ecf6bc661e0f", func := "rivet/rivetlaw07.LeNames", spec := "leNames", inPlace := ["internal/bytealg.IndexByteString", "internal/bytealg.IndexString"], named := ["unicode/utf8.first", "unicode/utf8.acceptRanges", "internal/bytealg.MaxLen"], apart := false, laid := [("unicode/utf8.acceptRanges", laid_unicode_utf8_acceptRanges), ("unicode/utf8.first", laid_unicode_utf8_first)], narrowed := true }
def LeNamesUptoSaid : Prop := leNamesUptoRow.holds Tryd.pinned (OpenSpec.upto leNamesSpec)

/-- 'rivetlaw07.LeAll', WHERE WHAT IT READS IS OF BULK AT MOST 1048576: true; the input reads as it did. -/
def leAllUptoRow : OpenClaim := { program := "ytckefpenekolhaadoor", sum := "53fd05bf0d0a49ab59a70fa1fa92b31cddd79b4698bcaeada164ecf6bc661e0f", func := "rivet/rivetlaw07.LeAll", spec := "leAll", inPlace := ["internal/bytealg.IndexByteString", "internal/bytealg.IndexString"], named := ["unicode/utf8.first", "unicode/utf8.acceptRanges", "internal/bytealg.MaxLen"], apart := false, laid := [("unicode/utf8.acceptRanges", laid_unicode_utf8_acceptRanges), ("unicode/utf8.first", laid_unicode_utf8_first)], narrowed := true }
def LeAllUptoSaid : Prop := leAllUptoRow.holds Tryd.pinned (OpenSpec.upto leAllSpec)

/-- 'rivetlaw07.LeBack', WHERE WHAT IT READS IS OF BULK AT MOST 1048576: true; the input reads as it did. -/
def leBackUptoRow : OpenClaim := { program := "ytckefpenekolhaadoor", sum := "53fd05bf0d0a49ab59a70fa1fa92b31cddd79b4698bcaeada164ecf6bc661e0f", func := "rivet/rivetlaw07.LeBack", spec := "leBack", inPlace := ["internal/bytealg.IndexByteString", "internal/bytealg.IndexString"], named := ["unicode/utf8.first", "unicode/utf8.acceptRanges", "internal/bytealg.MaxLen"], apart := false, laid := [("unicode/utf8.acceptRanges", laid_unicode_utf8_acceptRanges), ("unicode/utf8.first", laid_unicode_utf8_first)], narrowed := true }
def LeBackUptoSaid : Prop := leBackUptoRow.holds Tryd.pinned (OpenSpec.upto leBackSpec)

/-- 'rivetlaw07.LeTaken', WHERE WHAT IT READS IS OF BULK AT MOST 1048576: true; the input reads as it did. -/
def leTakenUptoRow : OpenClaim := { program := "ytckefpenekolhaadoor", sum := "53fd05bf0d0a49ab59a70fa1fa92b31cddd79b4698bcaeada164ecf6bc661e0f", func := "rivet/rivetlaw07.LeTaken", spec := "leTaken", inPlace := ["internal/bytealg.IndexByteString", "internal/bytealg.IndexString"], named := ["unicode/utf8.first", "unicode/utf8.acceptRanges", "internal/bytealg.MaxLen"], apart := false, laid := [("unicode/utf8.acceptRanges", laid_unicode_utf8_acceptRanges), ("unicode/utf8.first", laid_unicode_utf8_first)], narrowed := true }
def LeTakenUptoSaid : Prop := leTakenUptoRow.holds Tryd.pinned (OpenSpec.upto leTakenSpec)

/-- 'rivetlaw07.LeJoins', WHERE WHAT IT READS IS OF BULK AT MOST 1048576: true; the input reads as it did. -/
def leJoinsUptoRow : OpenClaim := { program := "ytckefpenekolhaadoor", sum := "53fd05bf0d0a49ab59a70fa1fa92b31cddd79b4698bcaeada164ecf6bc661e0f", func := "rivet/rivetlaw07.LeJoins", spec := "leJoins", inPlace := ["internal/bytealg.IndexByteString", "internal/bytealg.IndexString"], named := ["unicode/utf8.first", "unicode/utf8.acceptRanges", "internal/bytealg.MaxLen"], apart := false, laid := [("unicode/utf8.acceptRanges", laid_unicode_utf8_acceptRanges), ("unicode/utf8.first", laid_unicode_utf8_first)], narrowed := true }
def LeJoinsUptoSaid : Prop := leJoinsUptoRow.holds Tryd.pinned (OpenSpec.upto leJoinsSpec)

end Rows
end Go.Proofs.YtckefpenekolhaaDoor
