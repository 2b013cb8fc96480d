/-
  NARROWER THAN 'FOR EVERY INPUT', by the rows' own cells (each row's printed sentence says how): DumpHex: laid · DumpAll: laid · DumpTaken: laid · DumpLines: laid · DumpBack: laid · LabelNeeds: laid · LabelFewer: laid · LabelJumps: laid · LabelNames: laid.
  DERIVED. THE GIVEN ROWS OF THIS SEAT. 9 by the template 'for every input the law returns true; each argument reads behind the call as it read before'; 0 by the template 'total and deterministic' (their statements: YtlpiomnmaiddbaaDoorTotals.lean).
  GIVEN WITH THE SEED: the statements are not yours to turn. If you find one false, say at which input.
  Laid BY PROGRAM, IN A SANDBOX (cutbox-rows.mjs): the forced cells as the released guide's own fill.sh prints them over the translation 4858b16d17eb9133… (all of the seat's roots in one cut). By AI agents, Wed Nov 11 2026. No macro, syntax, notation, axiom, sorry.
-/
import Derived.Test.YtlpiomnmaiddbaaDoorChecked
import GoSem.PinnedTables
import GoSem.Claim
import GoSem.ClaimJoined
import GoSem.ClaimMapViews
import Derived.JoinedTies
import Derived.KernelRfl
namespace Go.Proofs.YtlpiomnmaiddbaaDoor
/- THE CELL 'sum', in the pinned program and in every row, IS THE sha256 OF THE DUMP (.gsa) THAT YtlpiomnmaiddbaaDoorProg.lean LOADS. Nothing in Lean hashes anything: it is a label: what it is worth is what the hold of that sum in a sandbox is worth. -/
noncomputable def Tryd.pinned : Pinned := { name := "ytlpiomnmaiddbaadoor", sum := "4858b16d17eb9133539be748e770905088a6a0160476af703c266c1e1fc70131", checked := Tryd.checked }
namespace Rows
def none {H : Type} : Left H := { results := [], args := [] }

/- WHAT THE LISTED PACKAGE-LEVEL VARIABLES READ AS WHEN THE CALL BEGINS. Each datum BY PROGRAM (the guide's laid-datum.mjs) off the statement by which the dump's own 'gosem.cut.vars' lays the variable. In a bare row this is a premise. The card (YtlpiomnmaiddbaaDoorCards.lean) ties it to the program's text. -/
def laid_unicode_utf8_acceptRanges {H : Type} : DataW H := .agg [.agg [.lit (.int .u8 128), .lit (.int .u8 191)], .agg [.lit (.int .u8 160), .lit (.int .u8 191)], .agg [.lit (.int .u8 128), .lit (.int .u8 159)], .agg [.lit (.int .u8 144), .lit (.int .u8 191)], .agg [.lit (.int .u8 128), .lit (.int .u8 143)], .agg [.lit (.int .u8 0), .lit (.int .u8 0)], .agg [.lit (.int .u8 0), .lit (.int .u8 0)], .agg [.lit (.int .u8 0), .lit (.int .u8 0)], .agg [.lit (.int .u8 0), .lit (.int .u8 0)], .agg [.lit (.int .u8 0), .lit (.int .u8 0)], .agg [.lit (.int .u8 0), .lit (.int .u8 0)], .agg [.lit (.int .u8 0), .lit (.int .u8 0)], .agg [.lit (.int .u8 0), .lit (.int .u8 0)], .agg [.lit (.int .u8 0), .lit (.int .u8 0)], .agg [.lit (.int .u8 0), .lit (.int .u8 0)], .agg [.lit (.int .u8 0), .lit (.int .u8 0)]]
/-- One of Go's own tables, pinned by name: the form's constant. -/
def laid_unicode_utf8_first : DataW Unit := Go.Pinned.utf8First

/-- 'rivetlaw11.DumpHex': WHATEVER THE INPUT: true; the input reads as it did. -/
def dumpHexSpec : ChangeSpec := { name := "dumpHex", fn := fun _ => fun
  | [d1, d2] => { results := [.lit (.bool true)], args := [d1, d2] }
  | _ => none }
def dumpHexRow : OpenClaim := { program := "ytlpiomnmaiddbaadoor", sum := "4858b16d17eb9133539be748e770905088a6a0160476af703c266c1e1fc70131", func := "rivet/rivetlaw11.DumpHex", spec := "dumpHex", inPlace := ["internal/bytealg.IndexByteString", "internal/bytealg.IndexString", "internal/abi.NoEscape", "internal/bytealg.MakeNoZero"], unfollowed := true, recurses := true, named := ["unicode/utf8.first", "unicode/utf8.acceptRanges", "internal/bytealg.MaxLen"], apart := false, laid := [("unicode/utf8.acceptRanges", laid_unicode_utf8_acceptRanges), ("unicode/utf8.first", laid_unicode_utf8_first)] }
def DumpHexSaid : Prop := dumpHexRow.holds Tryd.pinned (OpenSpec.ofChange dumpHexSpec)

/-- ITS FALSE NEIGHBOUR: 'it returns false'. Refute it at one input. -/
def dumpHexWrong : ChangeSpec := { name := "dumpHex", fn := fun _ => fun
  | [d1, d2] => { results := [.lit (.bool false)], args := [d1, d2] }
  | _ => none }
def DumpHexWrongFalsely : Prop := dumpHexRow.holds Tryd.pinned (OpenSpec.ofChange dumpHexWrong)

/-- 'rivetlaw11.DumpAll': WHATEVER THE INPUT: true; the input reads as it did. -/
def dumpAllSpec : ChangeSpec := { name := "dumpAll", fn := fun _ => fun
  | [d1, d2] => { results := [.lit (.bool true)], args := [d1, d2] }
  | _ => none }
def dumpAllRow : OpenClaim := { program := "ytlpiomnmaiddbaadoor", sum := "4858b16d17eb9133539be748e770905088a6a0160476af703c266c1e1fc70131", func := "rivet/rivetlaw11.DumpAll", spec := "dumpAll", inPlace := ["internal/bytealg.IndexByteString", "internal/bytealg.IndexString", "internal/abi.NoEscape", "internal/bytealg.MakeNoZero", "internal/bytealg.CountString"], unfollowed := true, recurses := true, named := ["unicode/utf8.first", "unicode/utf8.acceptRanges", "internal/bytealg.MaxLen"], apart := false, laid := [("unicode/utf8.acceptRanges", laid_unicode_utf8_acceptRanges), ("unicode/utf8.first", laid_unicode_utf8_first)] }
def DumpAllSaid : Prop := dumpAllRow.holds Tryd.pinned (OpenSpec.ofChange dumpAllSpec)

/-- ITS FALSE NEIGHBOUR: 'it returns false'. Refute it at one input. -/
def dumpAllWrong : ChangeSpec := { name := "dumpAll", fn := fun _ => fun
  | [d1, d2] => { results := [.lit (.bool false)], args := [d1, d2] }
  | _ => none }
def DumpAllWrongFalsely : Prop := dumpAllRow.holds Tryd.pinned (OpenSpec.ofChange dumpAllWrong)

/-- 'rivetlaw11.DumpTaken': WHATEVER THE INPUT: true; the input reads as it did. -/
def dumpTakenSpec : ChangeSpec := { name := "dumpTaken", fn := fun _ => fun
  | [d] => { results := [.lit (.bool true)], args := [d] }
  | _ => none }
def dumpTakenRow : OpenClaim := { program := "ytlpiomnmaiddbaadoor", sum := "4858b16d17eb9133539be748e770905088a6a0160476af703c266c1e1fc70131", func := "rivet/rivetlaw11.DumpTaken", spec := "dumpTaken", inPlace := ["internal/bytealg.IndexByteString", "internal/bytealg.IndexString", "internal/abi.NoEscape", "internal/bytealg.MakeNoZero", "internal/bytealg.CountString"], unfollowed := true, recurses := true, named := ["unicode/utf8.first", "unicode/utf8.acceptRanges", "internal/bytealg.MaxLen"], apart := false, laid := [("unicode/utf8.acceptRanges", laid_unicode_utf8_acceptRanges), ("unicode/utf8.first", laid_unicode_utf8_first)] }
def DumpTakenSaid : Prop := dumpTakenRow.holds Tryd.pinned (OpenSpec.ofChange dumpTakenSpec)

/-- ITS FALSE NEIGHBOUR: 'it returns false'. Refute it at one input. -/
def dumpTakenWrong : ChangeSpec := { name := "dumpTaken", fn := fun _ => fun
  | [d] => { results := [.lit (.bool false)], args := [d] }
  | _ => none }
def DumpTakenWrongFalsely : Prop := dumpTakenRow.holds Tryd.pinned (OpenSpec.ofChange dumpTakenWrong)

/-- 'rivetlaw11.DumpLines': WHATEVER THE INPUT: true; the input reads as it did. -/
def dumpLinesSpec : ChangeSpec := { name := "dumpLines", fn := fun _ => fun
  | [d] => { results := [.lit (.bool true)], args := [d] }
  | _ => none }
def dumpLinesRow : OpenClaim := { program := "ytlpiomnmaiddbaadoor", sum := "4858b16d17eb9133539be748e770905088a6a0160476af703c266c1e1fc70131", func := "rivet/rivetlaw11.DumpLines", spec := "dumpLines", inPlace := ["internal/bytealg.IndexByteString", "internal/bytealg.IndexString", "internal/abi.NoEscape", "internal/bytealg.MakeNoZero", "internal/bytealg.CountString"], unfollowed := true, recurses := true, named := ["unicode/utf8.first", "unicode/utf8.acceptRanges", "internal/bytealg.MaxLen"], apart := false, laid := [("unicode/utf8.acceptRanges", laid_unicode_utf8_acceptRanges), ("unicode/utf8.first", laid_unicode_utf8_first)] }
def DumpLinesSaid : Prop := dumpLinesRow.holds Tryd.pinned (OpenSpec.ofChange dumpLinesSpec)

/-- ITS FALSE NEIGHBOUR: 'it returns false'. Refute it at one input. -/
def dumpLinesWrong : ChangeSpec := { name := "dumpLines", fn := fun _ => fun
  | [d] => { results := [.lit (.bool false)], args := [d] }
  | _ => none }
def DumpLinesWrongFalsely : Prop := dumpLinesRow.holds Tryd.pinned (OpenSpec.ofChange dumpLinesWrong)

/-- 'rivetlaw11.DumpBack': WHATEVER THE INPUT: true; the input reads as it did. -/
def dumpBackSpec : ChangeSpec := { name := "dumpBack", fn := fun _ => fun
  | [d] => { results := [.lit (.bool true)], args := [d] }
  | _ => none }
def dumpBackRow : OpenClaim := { program := "ytlpiomnmaiddbaadoor", sum := "4858b16d17eb9133539be748e770905088a6a0160476af703c266c1e1fc70131", func := "rivet/rivetlaw11.DumpBack", spec := "dumpBack", inPlace := ["internal/bytealg.IndexByteString", "internal/bytealg.IndexString", "internal/abi.NoEscape", "internal/bytealg.MakeNoZero", "internal/bytealg.CountString"], unfollowed := true, recurses := true, named := ["unicode/utf8.first", "unicode/utf8.acceptRanges", "internal/bytealg.MaxLen"], apart := false, laid := [("unicode/utf8.acceptRanges", laid_unicode_utf8_acceptRanges), ("unicode/utf8.first", laid_unicode_utf8_first)] }
def DumpBackSaid : Prop := dumpBackRow.holds Tryd.pinned (OpenSpec.ofChange dumpBackSpec)

/-- ITS FALSE NEIGHBOUR: 'it returns false'. Refute it at one input. -/
def dumpBackWrong : ChangeSpec := { name := "dumpBack", fn := fun _ => fun
  | [d] => { results := [.lit (.bool false)], args := [d] }
  | _ => none }
def DumpBackWrongFalsely : Prop := dumpBackRow.holds Tryd.pinned (OpenSpec.ofChange dumpBackWrong)

/-- 'rivetlaw22.LabelNeeds': WHATEVER THE INPUT: true; the input reads as it did. -/
def labelNeedsSpec : ChangeSpec := { name := "labelNeeds", fn := fun _ => fun
  | [d] => { results := [.lit (.bool true)], args := [d] }
  | _ => none }
def labelNeedsRow : OpenClaim := { program := "ytlpiomnmaiddbaadoor", sum := "4858b16d17eb9133539be748e770905088a6a0160476af703c266c1e1fc70131", func := "rivet/rivetlaw22.LabelNeeds", spec := "labelNeeds", inPlace := ["internal/bytealg.IndexByteString", "internal/bytealg.IndexString"], unfollowed := true, recurses := true, named := ["unicode/utf8.first", "unicode/utf8.acceptRanges", "internal/bytealg.MaxLen"], apart := false, laid := [("unicode/utf8.acceptRanges", laid_unicode_utf8_acceptRanges), ("unicode/utf8.first", laid_unicode_utf8_first)] }
def LabelNeedsSaid : Prop := labelNeedsRow.holds Tryd.pinned (OpenSpec.ofChange labelNeedsSpec)

/-- ITS FALSE NEIGHBOUR: 'it returns false'. Refute it at one input. -/
def labelNeedsWrong : ChangeSpec := { name := "labelNeeds", fn := fun _ => fun
  | [d] => { results := [.lit (.bool false)], args := [d] }
  | _ => none }
def LabelNeedsWrongFalsely : Prop := labelNeedsRow.holds Tryd.pinned (OpenSpec.ofChange labelNeedsWrong)

/-- 'rivetlaw22.LabelFewer': WHATEVER THE INPUT: true; the input reads as it did. -/
def labelFewerSpec : ChangeSpec := { name := "labelFewer", fn := fun _ => fun
  | [d] => { results := [.lit (.bool true)], args := [d] }
  | _ => none }
def labelFewerRow : OpenClaim := { program := "ytlpiomnmaiddbaadoor", sum := "4858b16d17eb9133539be748e770905088a6a0160476af703c266c1e1fc70131", func := "rivet/rivetlaw22.LabelFewer", spec := "labelFewer", inPlace := ["internal/bytealg.IndexByteString", "internal/bytealg.IndexString"], unfollowed := true, recurses := true, named := ["unicode/utf8.first", "unicode/utf8.acceptRanges", "internal/bytealg.MaxLen"], apart := false, laid := [("unicode/utf8.acceptRanges", laid_unicode_utf8_acceptRanges), ("unicode/utf8.first", laid_unicode_utf8_first)] }
def LabelFewerSaid : Prop := labelFewerRow.holds Tryd.pinned (OpenSpec.ofChange labelFewerSpec)

/-- ITS FALSE NEIGHBOUR: 'it returns false'. Refute it at one input. -/
def labelFewerWrong : ChangeSpec := { name := "labelFewer", fn := fun _ => fun
  | [d] => { results := [.lit (.bool false)], args := [d] }
  | _ => none }
def LabelFewerWrongFalsely : Prop := labelFewerRow.holds Tryd.pinned (OpenSpec.ofChange labelFewerWrong)

/-- 'rivetlaw22.LabelJumps': WHATEVER THE INPUT: true; the input reads as it did. -/
def labelJumpsSpec : ChangeSpec := { name := "labelJumps", fn := fun _ => fun
  | [d1, d2, d3] => { results := [.lit (.bool true)], args := [d1, d2, d3] }
  | _ => none }
def labelJumpsRow : OpenClaim := { program := "ytlpiomnmaiddbaadoor", sum := "4858b16d17eb9133539be748e770905088a6a0160476af703c266c1e1fc70131", func := "rivet/rivetlaw22.LabelJumps", spec := "labelJumps", inPlace := ["internal/bytealg.IndexByteString", "internal/bytealg.IndexString"], unfollowed := true, recurses := true, named := ["unicode/utf8.first", "unicode/utf8.acceptRanges", "internal/bytealg.MaxLen"], apart := false, laid := [("unicode/utf8.acceptRanges", laid_unicode_utf8_acceptRanges), ("unicode/utf8.first", laid_unicode_utf8_first)] }
def LabelJumpsSaid : Prop := labelJumpsRow.holds Tryd.pinned (OpenSpec.ofChange labelJumpsSpec)

/-- ITS FALSE NEIGHBOUR: 'it returns false'. Refute it at one input. -/
def labelJumpsWrong : ChangeSpec := { name := "labelJumps", fn := fun _ => fun
  | [d1, d2, d3] => { results := [.lit (.bool false)], args := [d1, d2, d3] }
  | _ => none }
def LabelJumpsWrongFalsely : Prop := labelJumpsRow.holds Tryd.pinned (OpenSpec.ofChange labelJumpsWrong)

/-- 'rivetlaw22.LabelNames': WHATEVER THE INPUT: true; the input reads as it did. -/
def labelNamesSpec : ChangeSpec := { name := "labelNames", fn := fun _ => fun
  | [d1, d2] => { results := [.lit (.bool true)], args := [d1, d2] }
  | _ => none }
def labelNamesRow : OpenClaim := { program := "ytlpiomnmaiddbaadoor", sum := "4858b16d17eb9133539be748e770905088a6a0160476af703c266c1e1fc70131", func := "rivet/rivetlaw22.LabelNames", spec := "labelNames", inPlace := ["internal/bytealg.IndexByteString", "internal/bytealg.IndexString"], unfollowed := true, recurses := true, named := ["unicode/utf8.first", "unicode/utf8.acceptRanges", "internal/bytealg.MaxLen"], apart := false, laid := [("unicode/utf8.acceptRanges", laid_unicode_utf8_acceptRanges), ("unicode/utf8.first", laid_unicode_utf8_first)] }
def LabelNamesSaid : Prop := labelNamesRow.holds Tryd.pinned (OpenSpec.ofChange labelNamesSpec)

/-- ITS FALSE NEIGHBOUR: 'it returns false'. Refute it at one input. -/
def labelNamesWrong : ChangeSpec := { name := "labelNames", fn := fun _ => fun
  | [d1, d2] => { results := [.lit (.bool false)], args := [d1, d2] }
  | _ => none }
def LabelNamesWrongFalsely : Prop := labelNamesRow.holds Tryd.pinned (OpenSpec.ofChange labelNamesWrong)

/- THE SECOND FORM. 'bulk': how many values and letters a reading holds, each counted each time it is reached (what is shared counts as often as it is met; a slice's spare places count too). A statement '..UptoSaid' is the law's where the arguments, and the package variables that the reading takes, are together of bulk at most 1048576: NARROWER than '..Said'. Prove '..Said' where nothing that the law and all that it calls make is longer than what came in: it says more and counts as full. Else prove '..UptoSaid'. A law counts once. -/
mutual
def uptoBulk {H : Type} : DataW H → Nat
  | .lit (.string bytes) => bytes.length + 1
  | .lit _ => 1
  | .nil => 1
  | .ptr d => uptoBulk d + 1
  | .slice elems spare => uptoBulkAll elems + uptoBulkAll spare + 1
  | .agg parts => uptoBulkAll parts + 1
  | .iface _ d => uptoBulk d + 1
  | .map entries => uptoBulkEntries entries + 1
  | .held _ => 1
def uptoBulkAll {H : Type} : List (DataW H) → Nat
  | [] => 0
  | d :: r => uptoBulk d + uptoBulkAll r
def uptoBulkEntries {H : Type} : List (Lit × DataW H) → Nat
  | [] => 0
  | x :: r => uptoBulkEntry x + uptoBulkEntries r
def uptoBulkEntry {H : Type} : Lit × DataW H → Nat
  | (.string bytes, d) => bytes.length + uptoBulk d + 1
  | (_, d) => uptoBulk d + 1
 end
def uptoSmall : (H : Type) → List (DataW H) → Bool := fun _ ds => decide (uptoBulkAll ds ≤ 1048576)
def OpenSpec.upto (s : _root_.Go.ChangeSpec) : _root_.Go.OpenSpec := { _root_.Go.OpenSpec.ofChange s with cond := some uptoSmall }

/-- 'rivetlaw11.DumpHex', WHERE WHAT IT READS IS OF BULK AT MOST 1048576: true; the input reads as it did. -/
def dumpHexUptoRow : OpenClaim := { program := "ytlpiomnmaiddbaadoor", sum := "4858b16d17eb9133539be748e770905088a6a0160476af703c266c1e1fc70131", func := "rivet/rivetlaw11.DumpHex", spec := "dumpHex", inPlace := ["internal/bytealg.IndexByteString", "internal/bytealg.IndexString", "internal/abi.NoEscape", "internal/bytealg.MakeNoZero"], unfollowed := true, recurses := true, named := ["unicode/utf8.first", "unicode/utf8.acceptRanges", "internal/bytealg.MaxLen"], apart := false, laid := [("unicode/utf8.acceptRanges", laid_unicode_utf8_acceptRanges), ("unicode/utf8.first", laid_unicode_utf8_first)], narrowed := true }
def DumpHexUptoSaid : Prop := dumpHexUptoRow.holds Tryd.pinned (OpenSpec.upto dumpHexSpec)

/-- 'rivetlaw11.DumpAll', WHERE WHAT IT READS IS OF BULK AT MOST 1048576: true; the input reads as it did. -/
def dumpAllUptoRow : OpenClaim := { program := "ytlpiomnmaiddbaadoor", sum := "4858b16d17eb9133539be748e770905088a6a0160476af703c266c1e1fc70131", func := "rivet/rivetlaw11.DumpAll", spec := "dumpAll", inPlace := ["internal/bytealg.IndexByteString", "internal/bytealg.IndexString", "internal/abi.NoEscape", "internal/bytealg.MakeNoZero", "internal/bytealg.CountString"], unfollowed := true, recurses := true, named := ["unicode/utf8.first", "unicode/utf8.acceptRanges", "internal/bytealg.MaxLen"], apart := false, laid := [("unicode/utf8.acceptRanges", laid_unicode_utf8_acceptRanges), ("unicode/utf8.first", laid_unicode_utf8_first)], narrowed := true }
def DumpAllUptoSaid : Prop := dumpAllUptoRow.holds Tryd.pinned (OpenSpec.upto dumpAllSpec)

/-- 'rivetlaw11.DumpTaken', WHERE WHAT IT READS IS OF BULK AT MOST 1048576: true; the input reads as it did. -/
def dumpTakenUptoRow : OpenClaim := { program := "ytlpiomnmaiddbaadoor", sum := "4858b16d17eb9133539be748e770905088a6a0160476af703c266c1e1fc70131", func := "rivet/rivetlaw11.DumpTaken", spec := "dumpTaken", inPlace := ["internal/bytealg.IndexByteString", "internal/bytealg.IndexString", "internal/abi.NoEscape", "internal/bytealg.MakeNoZero", "internal/bytealg.CountString"], unfollowed := true, recurses := true, named := ["unicode/utf8.first", "unicode/utf8.acceptRanges", "internal/bytealg.MaxLen"], apart := false, laid := [("unicode/utf8.acceptRanges", laid_unicode_utf8_acceptRanges), ("unicode/utf8.first", laid_unicode_utf8_first)], narrowed := true }
def DumpTakenUptoSaid : Prop := dumpTakenUptoRow.holds Tryd.pinned (OpenSpec.upto dumpTakenSpec)

/-- 'rivetlaw11.DumpLines', WHERE WHAT IT READS IS OF BULK AT MOST 1048576: true; the input reads as it did. -/
def dumpLinesUptoRow : OpenClaim := { program := "ytlpiomnmaiddbaadoor", sum := "4858b16d17eb9133539be748e770905088a6a0160476af703c266c1e1fc70131", func := "rivet/rivetlaw11.DumpLines", spec := "dumpLines", inPlace := ["internal/bytealg.IndexByteString", "internal/bytealg.IndexString", "internal/abi.NoEscape", "internal/bytealg.MakeNoZero", "internal/bytealg.CountString"], unfollowed := true, recurses := true, named := ["unicode/utf8.first", "unicode/utf8.acceptRanges", "internal/bytealg.MaxLen"], apart := false, laid := [("unicode/utf8.acceptRanges", laid_unicode_utf8_acceptRanges), ("unicode/utf8.first", laid_unicode_utf8_first)], narrowed := true }
def DumpLinesUptoSaid : Prop := dumpLinesUptoRow.holds Tryd.pinned (OpenSpec.upto dumpLinesSpec)

/-- 'rivetlaw11.DumpBack', WHERE WHAT IT READS IS OF BULK AT MOST 1048576: true; the input reads as it did. -/
def dumpBackUptoRow : OpenClaim := { program := "ytlpiomnmaiddbaadoor", sum := "4858b16d17eb9133539be748e770905088a6a0160476af703c266c1e1fc70131", func := "rivet/rivetlaw11.DumpBack", spec := "dumpBack", inPlace := ["internal/bytealg.IndexByteString", "internal/bytealg.IndexString", "internal/abi.NoEscape", "internal/bytealg.MakeNoZero", "internal/bytealg.CountString"], unfollowed := true, recurses := true, named := ["unicode/utf8.first", "unicode/utf8.acceptRanges", "internal/bytealg.MaxLen"], apart := false, laid := [("unicode/utf8.acceptRanges", laid_unicode_utf8_acceptRanges), ("unicode/utf8.first", laid_unicode_utf8_first)], narrowed := true }
def DumpBackUptoSaid : Prop := dumpBackUptoRow.holds Tryd.pinned (OpenSpec.upto dumpBackSpec)

/-- 'rivetlaw22.LabelNeeds', WHERE WHAT IT READS IS OF BULK AT MOST 1048576: true; the input reads as it did. -/
def labelNeedsUptoRow : OpenClaim := { program := "ytlpiomnmaiddbaadoor", sum := "4858b16d17eb9133539be748e770905088a6a0160476af703c266c1e1fc70131", func := "rivet/rivetlaw22.LabelNeeds", spec := "labelNeeds", inPlace := ["internal/bytealg.IndexByteString", "internal/bytealg.IndexString"], unfollowed := true, recurses := true, named := ["unicode/utf8.first", "unicode/utf8.acceptRanges", "internal/bytealg.MaxLen"], apart := false, laid := [("unicode/utf8.acceptRanges", laid_unicode_utf8_acceptRanges), ("unicode/utf8.first", laid_unicode_utf8_first)], narrowed := true }
def LabelNeedsUptoSaid : Prop := labelNeedsUptoRow.holds Tryd.pinned (OpenSpec.upto labelNeedsSpec)

/-- 'rivetlaw22.LabelFewer', WHERE WHAT IT READS IS OF BULK AT MOST 1048576: true; the input reads as it did. -/
def labelFewerUptoRow : OpenClaim := { program := "ytlpiomnmaiddbaadoor", sum := "4858b16d17eb9133539be748e770905088a6a0160476af703c266c1e1fc70131", func := "rivet/rivetlaw22.LabelFewer", spec := "labelFewer", inPlace := ["internal/bytealg.IndexByteString", "internal/bytealg.IndexString"], unfollowed := true, recurses := true, named := ["unicode/utf8.first", "unicode/utf8.acceptRanges", "internal/bytealg.MaxLen"], apart := false, laid := [("unicode/utf8.acceptRanges", laid_unicode_utf8_acceptRanges), ("unicode/utf8.first", laid_unicode_utf8_first)], narrowed := true }
def LabelFewerUptoSaid : Prop := labelFewerUptoRow.holds Tryd.pinned (OpenSpec.upto labelFewerSpec)

/-- 'rivetlaw22.LabelJumps', WHERE WHAT IT READS IS OF BULK AT MOST 1048576: true; the input reads as it did. -/
def labelJumpsUptoRow : OpenClaim := { program := "ytlpiomnmaiddbaadoor", sum := "4858b16d17eb9133539be748e770905088a6a0160476af703c266c1e1fc70131", func := "rivet/rivetlaw22.LabelJumps", spec := "labelJumps", inPlace := ["internal/bytealg.IndexByteString", "internal/bytealg.IndexString"], unfollowed := true, recurses := true, named := ["unicode/utf8.first", "unicode/utf8.acceptRanges", "internal/bytealg.MaxLen"], apart := false, laid := [("unicode/utf8.acceptRanges", laid_unicode_utf8_acceptRanges), ("unicode/utf8.first", laid_unicode_utf8_first)], narrowed := true }
def LabelJumpsUptoSaid : Prop := labelJumpsUptoRow.holds Tryd.pinned (OpenSpec.upto labelJumpsSpec)

/-- 'rivetlaw22.LabelNames', WHERE WHAT IT READS IS OF BULK AT MOST 1048576: true; the input reads as it did. -/
def labelNamesUptoRow : OpenClaim := { program := "ytlpiomnmaiddbaadoor", sum := "4858b16d17eb9133539be748e770905088a6a0160476af703c266c1e1fc70131", func := "rivet/rivetlaw22.LabelNames", spec := "labelNames", inPlace := ["internal/bytealg.IndexByteString", "internal/bytealg.IndexString"], unfollowed := true, recurses := true, named := ["unicode/utf8.first", "unicode/utf8.acceptRanges", "internal/bytealg.MaxLen"], apart := false, laid := [("unicode/utf8.acceptRanges", laid_unicode_utf8_acceptRanges), ("unicode/utf8.first", laid_unicode_utf8_first)], narrowed := true }
def LabelNamesUptoSaid : Prop := labelNamesUptoRow.holds Tryd.pinned (OpenSpec.upto labelNamesSpec)

end Rows
end Go.Proofs.YtlpiomnmaiddbaaDoor
