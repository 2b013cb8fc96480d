/-
  NARROWER THAN 'FOR EVERY INPUT', by the rows' own cells (each row's printed sentence says how): ObjectAll: laid · ObjectSpoilt: laid · ObjectParts: laid · ObjectUnlike: laid · FileAll: laid · FileBack: laid · FileParts: laid · FileNames: laid · FileTaken: laid · FileWords: laid.
  DERIVED. THE GIVEN ROWS OF THIS SEAT. 10 by the template 'for every input the law returns true; each argument reads behind the call as it read before'; 0 by the template 'total and deterministic' (their statements: YtmfnololpfdfdaaDoorTotals.lean).
  GIVEN WITH THE SEED: the statements are not yours to turn. If you find one false, say at which input.
  Laid BY PROGRAM, IN A SANDBOX (cutbox-rows.mjs): the forced cells as the released guide's own fill.sh prints them over the translation ae614676bb7e51ec… (all of the seat's roots in one cut). By AI agents, Wed Nov 11 2026. No macro, syntax, notation, axiom, sorry.
-/
import Derived.Test.YtmfnololpfdfdaaDoorChecked
import GoSem.PinnedTables
import GoSem.Claim
import GoSem.ClaimJoined
import GoSem.ClaimMapViews
import Derived.JoinedTies
import Derived.KernelRfl
namespace Go.Proofs.YtmfnololpfdfdaaDoor
/- THE CELL 'sum', in the pinned program and in every row, IS THE sha256 OF THE DUMP (.gsa) THAT YtmfnololpfdfdaaDoorProg.lean LOADS. Nothing in Lean hashes anything: it is a label: what it is worth is what the hold of that sum in a sandbox is worth. -/
noncomputable def Tryd.pinned : Pinned := { name := "ytmfnololpfdfdaadoor", sum := "ae614676bb7e51ec0c2ee6085eca67383b21ff6de7713de10051afc2ba3a296d", checked := Tryd.checked }
namespace Rows
def none {H : Type} : Left H := { results := [], args := [] }

/- WHAT THE LISTED PACKAGE-LEVEL VARIABLES READ AS WHEN THE CALL BEGINS. Each datum BY PROGRAM (the guide's laid-datum.mjs) off the statement by which the dump's own 'gosem.cut.vars' lays the variable. In a bare row this is a premise. The card (YtmfnololpfdfdaaDoorCards.lean) ties it to the program's text. -/
def laid_unicode_utf8_acceptRanges {H : Type} : DataW H := .agg [.agg [.lit (.int .u8 128), .lit (.int .u8 191)], .agg [.lit (.int .u8 160), .lit (.int .u8 191)], .agg [.lit (.int .u8 128), .lit (.int .u8 159)], .agg [.lit (.int .u8 144), .lit (.int .u8 191)], .agg [.lit (.int .u8 128), .lit (.int .u8 143)], .agg [.lit (.int .u8 0), .lit (.int .u8 0)], .agg [.lit (.int .u8 0), .lit (.int .u8 0)], .agg [.lit (.int .u8 0), .lit (.int .u8 0)], .agg [.lit (.int .u8 0), .lit (.int .u8 0)], .agg [.lit (.int .u8 0), .lit (.int .u8 0)], .agg [.lit (.int .u8 0), .lit (.int .u8 0)], .agg [.lit (.int .u8 0), .lit (.int .u8 0)], .agg [.lit (.int .u8 0), .lit (.int .u8 0)], .agg [.lit (.int .u8 0), .lit (.int .u8 0)], .agg [.lit (.int .u8 0), .lit (.int .u8 0)], .agg [.lit (.int .u8 0), .lit (.int .u8 0)]]
/-- One of Go's own tables, pinned by name: the form's constant. -/
def laid_unicode_utf8_first : DataW Unit := Go.Pinned.utf8First

/-- 'rivetlaw09.ObjectAll': WHATEVER THE INPUT: true; the input reads as it did. -/
def objectAllSpec : ChangeSpec := { name := "objectAll", fn := fun _ => fun
  | [d1, d2] => { results := [.lit (.bool true)], args := [d1, d2] }
  | _ => none }
def objectAllRow : OpenClaim := { program := "ytmfnololpfdfdaadoor", sum := "ae614676bb7e51ec0c2ee6085eca67383b21ff6de7713de10051afc2ba3a296d", func := "rivet/rivetlaw09.ObjectAll", spec := "objectAll", inPlace := ["internal/bytealg.IndexByteString", "internal/bytealg.IndexString"], unfollowed := true, recurses := true, named := ["unicode/utf8.first", "unicode/utf8.acceptRanges", "internal/bytealg.MaxLen"], apart := false, laid := [("unicode/utf8.acceptRanges", laid_unicode_utf8_acceptRanges), ("unicode/utf8.first", laid_unicode_utf8_first)] }
def ObjectAllSaid : Prop := objectAllRow.holds Tryd.pinned (OpenSpec.ofChange objectAllSpec)

/-- ITS FALSE NEIGHBOUR: 'it returns false'. Refute it at one input. -/
def objectAllWrong : ChangeSpec := { name := "objectAll", fn := fun _ => fun
  | [d1, d2] => { results := [.lit (.bool false)], args := [d1, d2] }
  | _ => none }
def ObjectAllWrongFalsely : Prop := objectAllRow.holds Tryd.pinned (OpenSpec.ofChange objectAllWrong)

/-- 'rivetlaw09.ObjectSpoilt': WHATEVER THE INPUT: true; the input reads as it did. -/
def objectSpoiltSpec : ChangeSpec := { name := "objectSpoilt", fn := fun _ => fun
  | [d1, d2, d3] => { results := [.lit (.bool true)], args := [d1, d2, d3] }
  | _ => none }
def objectSpoiltRow : OpenClaim := { program := "ytmfnololpfdfdaadoor", sum := "ae614676bb7e51ec0c2ee6085eca67383b21ff6de7713de10051afc2ba3a296d", func := "rivet/rivetlaw09.ObjectSpoilt", spec := "objectSpoilt", inPlace := ["internal/bytealg.IndexByteString", "internal/bytealg.IndexString"], unfollowed := true, recurses := true, named := ["unicode/utf8.first", "unicode/utf8.acceptRanges", "internal/bytealg.MaxLen"], apart := false, laid := [("unicode/utf8.acceptRanges", laid_unicode_utf8_acceptRanges), ("unicode/utf8.first", laid_unicode_utf8_first)] }
def ObjectSpoiltSaid : Prop := objectSpoiltRow.holds Tryd.pinned (OpenSpec.ofChange objectSpoiltSpec)

/-- ITS FALSE NEIGHBOUR: 'it returns false'. Refute it at one input. -/
def objectSpoiltWrong : ChangeSpec := { name := "objectSpoilt", fn := fun _ => fun
  | [d1, d2, d3] => { results := [.lit (.bool false)], args := [d1, d2, d3] }
  | _ => none }
def ObjectSpoiltWrongFalsely : Prop := objectSpoiltRow.holds Tryd.pinned (OpenSpec.ofChange objectSpoiltWrong)

/-- 'rivetlaw09.ObjectParts': WHATEVER THE INPUT: true; the input reads as it did. -/
def objectPartsSpec : ChangeSpec := { name := "objectParts", fn := fun _ => fun
  | [d1, d2] => { results := [.lit (.bool true)], args := [d1, d2] }
  | _ => none }
def objectPartsRow : OpenClaim := { program := "ytmfnololpfdfdaadoor", sum := "ae614676bb7e51ec0c2ee6085eca67383b21ff6de7713de10051afc2ba3a296d", func := "rivet/rivetlaw09.ObjectParts", spec := "objectParts", inPlace := ["internal/bytealg.IndexByteString", "internal/bytealg.IndexString"], unfollowed := true, recurses := true, named := ["unicode/utf8.first", "unicode/utf8.acceptRanges", "internal/bytealg.MaxLen"], apart := false, laid := [("unicode/utf8.acceptRanges", laid_unicode_utf8_acceptRanges), ("unicode/utf8.first", laid_unicode_utf8_first)] }
def ObjectPartsSaid : Prop := objectPartsRow.holds Tryd.pinned (OpenSpec.ofChange objectPartsSpec)

/-- ITS FALSE NEIGHBOUR: 'it returns false'. Refute it at one input. -/
def objectPartsWrong : ChangeSpec := { name := "objectParts", fn := fun _ => fun
  | [d1, d2] => { results := [.lit (.bool false)], args := [d1, d2] }
  | _ => none }
def ObjectPartsWrongFalsely : Prop := objectPartsRow.holds Tryd.pinned (OpenSpec.ofChange objectPartsWrong)

/-- 'rivetlaw09.ObjectUnlike': WHATEVER THE INPUT: true; the input reads as it did. -/
def objectUnlikeSpec : ChangeSpec := { name := "objectUnlike", fn := fun _ => fun
  | [d1, d2, d3] => { results := [.lit (.bool true)], args := [d1, d2, d3] }
  | _ => none }
def objectUnlikeRow : OpenClaim := { program := "ytmfnololpfdfdaadoor", sum := "ae614676bb7e51ec0c2ee6085eca67383b21ff6de7713de10051afc2ba3a296d", func := "rivet/rivetlaw09.ObjectUnlike", spec := "objectUnlike", inPlace := ["internal/bytealg.IndexByteString", "internal/bytealg.IndexString"], unfollowed := true, recurses := true, named := ["unicode/utf8.first", "unicode/utf8.acceptRanges", "internal/bytealg.MaxLen"], apart := false, laid := [("unicode/utf8.acceptRanges", laid_unicode_utf8_acceptRanges), ("unicode/utf8.first", laid_unicode_utf8_first)] }
def ObjectUnlikeSaid : Prop := objectUnlikeRow.holds Tryd.pinned (OpenSpec.ofChange objectUnlikeSpec)

/-- ITS FALSE NEIGHBOUR: 'it returns false'. Refute it at one input. -/
def objectUnlikeWrong : ChangeSpec := { name := "objectUnlike", fn := fun _ => fun
  | [d1, d2, d3] => { results := [.lit (.bool false)], args := [d1, d2, d3] }
  | _ => none }
def ObjectUnlikeWrongFalsely : Prop := objectUnlikeRow.holds Tryd.pinned (OpenSpec.ofChange objectUnlikeWrong)

/-- 'rivetlaw10.FileAll': WHATEVER THE INPUT: true; the input reads as it did. -/
def fileAllSpec : ChangeSpec := { name := "fileAll", fn := fun _ => fun
  | [d1, d2] => { results := [.lit (.bool true)], args := [d1, d2] }
  | _ => none }
def fileAllRow : OpenClaim := { program := "ytmfnololpfdfdaadoor", sum := "ae614676bb7e51ec0c2ee6085eca67383b21ff6de7713de10051afc2ba3a296d", func := "rivet/rivetlaw10.FileAll", spec := "fileAll", inPlace := ["internal/bytealg.IndexByteString", "internal/bytealg.IndexString"], unfollowed := true, recurses := true, named := ["unicode/utf8.first", "unicode/utf8.acceptRanges", "internal/bytealg.MaxLen"], apart := false, laid := [("unicode/utf8.acceptRanges", laid_unicode_utf8_acceptRanges), ("unicode/utf8.first", laid_unicode_utf8_first)] }
def FileAllSaid : Prop := fileAllRow.holds Tryd.pinned (OpenSpec.ofChange fileAllSpec)

/-- ITS FALSE NEIGHBOUR: 'it returns false'. Refute it at one input. -/
def fileAllWrong : ChangeSpec := { name := "fileAll", fn := fun _ => fun
  | [d1, d2] => { results := [.lit (.bool false)], args := [d1, d2] }
  | _ => none }
def FileAllWrongFalsely : Prop := fileAllRow.holds Tryd.pinned (OpenSpec.ofChange fileAllWrong)

/-- 'rivetlaw10.FileBack': WHATEVER THE INPUT: true; the input reads as it did. -/
def fileBackSpec : ChangeSpec := { name := "fileBack", fn := fun _ => fun
  | [d1, d2] => { results := [.lit (.bool true)], args := [d1, d2] }
  | _ => none }
def fileBackRow : OpenClaim := { program := "ytmfnololpfdfdaadoor", sum := "ae614676bb7e51ec0c2ee6085eca67383b21ff6de7713de10051afc2ba3a296d", func := "rivet/rivetlaw10.FileBack", spec := "fileBack", inPlace := ["internal/bytealg.IndexByteString", "internal/bytealg.IndexString"], unfollowed := true, recurses := true, named := ["unicode/utf8.first", "unicode/utf8.acceptRanges", "internal/bytealg.MaxLen"], apart := false, laid := [("unicode/utf8.acceptRanges", laid_unicode_utf8_acceptRanges), ("unicode/utf8.first", laid_unicode_utf8_first)] }
def FileBackSaid : Prop := fileBackRow.holds Tryd.pinned (OpenSpec.ofChange fileBackSpec)

/-- ITS FALSE NEIGHBOUR: 'it returns false'. Refute it at one input. -/
def fileBackWrong : ChangeSpec := { name := "fileBack", fn := fun _ => fun
  | [d1, d2] => { results := [.lit (.bool false)], args := [d1, d2] }
  | _ => none }
def FileBackWrongFalsely : Prop := fileBackRow.holds Tryd.pinned (OpenSpec.ofChange fileBackWrong)

/-- 'rivetlaw10.FileParts': WHATEVER THE INPUT: true; the input reads as it did. -/
def filePartsSpec : ChangeSpec := { name := "fileParts", fn := fun _ => fun
  | [d] => { results := [.lit (.bool true)], args := [d] }
  | _ => none }
def filePartsRow : OpenClaim := { program := "ytmfnololpfdfdaadoor", sum := "ae614676bb7e51ec0c2ee6085eca67383b21ff6de7713de10051afc2ba3a296d", func := "rivet/rivetlaw10.FileParts", spec := "fileParts", inPlace := ["internal/bytealg.IndexByteString", "internal/bytealg.IndexString"], unfollowed := true, recurses := true, named := ["unicode/utf8.first", "unicode/utf8.acceptRanges", "internal/bytealg.MaxLen"], apart := false, laid := [("unicode/utf8.acceptRanges", laid_unicode_utf8_acceptRanges), ("unicode/utf8.first", laid_unicode_utf8_first)] }
def FilePartsSaid : Prop := filePartsRow.holds Tryd.pinned (OpenSpec.ofChange filePartsSpec)

/-- ITS FALSE NEIGHBOUR: 'it returns false'. Refute it at one input. -/
def filePartsWrong : ChangeSpec := { name := "fileParts", fn := fun _ => fun
  | [d] => { results := [.lit (.bool false)], args := [d] }
  | _ => none }
def FilePartsWrongFalsely : Prop := filePartsRow.holds Tryd.pinned (OpenSpec.ofChange filePartsWrong)

/-- 'rivetlaw10.FileNames': WHATEVER THE INPUT: true; the input reads as it did. -/
def fileNamesSpec : ChangeSpec := { name := "fileNames", fn := fun _ => fun
  | [d1, d2] => { results := [.lit (.bool true)], args := [d1, d2] }
  | _ => none }
def fileNamesRow : OpenClaim := { program := "ytmfnololpfdfdaadoor", sum := "ae614676bb7e51ec0c2ee6085eca67383b21ff6de7713de10051afc2ba3a296d", func := "rivet/rivetlaw10.FileNames", spec := "fileNames", inPlace := ["internal/bytealg.IndexByteString", "internal/bytealg.IndexString"], unfollowed := true, recurses := true, named := ["unicode/utf8.first", "unicode/utf8.acceptRanges", "internal/bytealg.MaxLen"], apart := false, laid := [("unicode/utf8.acceptRanges", laid_unicode_utf8_acceptRanges), ("unicode/utf8.first", laid_unicode_utf8_first)] }
def FileNamesSaid : Prop := fileNamesRow.holds Tryd.pinned (OpenSpec.ofChange fileNamesSpec)

/-- ITS FALSE NEIGHBOUR: 'it returns false'. Refute it at one input. -/
def fileNamesWrong : ChangeSpec := { name := "fileNames", fn := fun _ => fun
  | [d1, d2] => { results := [.lit (.bool false)], args := [d1, d2] }
  | _ => none }
def FileNamesWrongFalsely : Prop := fileNamesRow.holds Tryd.pinned (OpenSpec.ofChange fileNamesWrong)

/-- 'rivetlaw10.FileTaken': WHATEVER THE INPUT: true; the input reads as it did. -/
def fileTakenSpec : ChangeSpec := { name := "fileTaken", fn := fun _ => fun
  | [d] => { results := [.lit (.bool true)], args := [d] }
  | _ => none }
def fileTakenRow : OpenClaim := { program := "ytmfnololpfdfdaadoor", sum := "ae614676bb7e51ec0c2ee6085eca67383b21ff6de7713de10051afc2ba3a296d", func := "rivet/rivetlaw10.FileTaken", spec := "fileTaken", inPlace := ["internal/bytealg.IndexByteString", "internal/bytealg.IndexString"], unfollowed := true, recurses := true, named := ["unicode/utf8.first", "unicode/utf8.acceptRanges", "internal/bytealg.MaxLen"], apart := false, laid := [("unicode/utf8.acceptRanges", laid_unicode_utf8_acceptRanges), ("unicode/utf8.first", laid_unicode_utf8_first)] }
def FileTakenSaid : Prop := fileTakenRow.holds Tryd.pinned (OpenSpec.ofChange fileTakenSpec)

/-- ITS FALSE NEIGHBOUR: 'it returns false'. Refute it at one input. -/
def fileTakenWrong : ChangeSpec := { name := "fileTaken", fn := fun _ => fun
  | [d] => { results := [.lit (.bool false)], args := [d] }
  | _ => none }
def FileTakenWrongFalsely : Prop := fileTakenRow.holds Tryd.pinned (OpenSpec.ofChange fileTakenWrong)

/-- 'rivetlaw10.FileWords': WHATEVER THE INPUT: true; the input reads as it did. -/
def fileWordsSpec : ChangeSpec := { name := "fileWords", fn := fun _ => fun
  | [d1, d2, d3] => { results := [.lit (.bool true)], args := [d1, d2, d3] }
  | _ => none }
def fileWordsRow : OpenClaim := { program := "ytmfnololpfdfdaadoor", sum := "ae614676bb7e51ec0c2ee6085eca67383b21ff6de7713de10051afc2ba3a296d", func := "rivet/rivetlaw10.FileWords", spec := "fileWords", inPlace := ["internal/bytealg.IndexByteString", "internal/bytealg.IndexString"], unfollowed := true, recurses := true, named := ["unicode/utf8.first", "unicode/utf8.acceptRanges", "internal/bytealg.MaxLen"], apart := false, laid := [("unicode/utf8.acceptRanges", laid_unicode_utf8_acceptRanges), ("unicode/utf8.first", laid_unicode_utf8_first)] }
def FileWordsSaid : Prop := fileWordsRow.holds Tryd.pinned (OpenSpec.ofChange fileWordsSpec)

/-- ITS FALSE NEIGHBOUR: 'it returns false'. Refute it at one input. -/
def fileWordsWrong : ChangeSpec := { name := "fileWords", fn := fun _ => fun
  | [d1, d2, d3] => { results := [.lit (.bool false)], args := [d1, d2, d3] }
  | _ => none }
def FileWordsWrongFalsely : Prop := fileWordsRow.holds Tryd.pinned (OpenSpec.ofChange fileWordsWrong)

/- THE SECOND FORM. 'bulk': how many values and letters a reading holds, each counted each time it is reached (what is shared counts as often as it is met; a slice's spare places count too). A statement '..UptoSaid' is the law's where the arguments, and the package variables that the reading takes, are together of bulk at most 1048576: NARROWER than '..Said'. Prove '..Said' where nothing that the law and all that it calls make is longer than what came in: it says more and counts as full. Else prove '..UptoSaid'. A law counts once. -/
mutual
def uptoBulk {H : Type} : DataW H → Nat
  | .lit (.string bytes) => bytes.length + 1
  | .lit _ => 1
  | .nil => 1
  | .ptr d => uptoBulk d + 1
  | .slice elems spare => uptoBulkAll elems + uptoBulkAll spare + 1
  | .agg parts => uptoBulkAll parts + 1
  | .iface _ d => uptoBulk d + 1
  | .map entries => uptoBulkEntries entries + 1
  | .held _ => 1
def uptoBulkAll {H : Type} : List (DataW H) → Nat
  | [] => 0
  | d :: r => uptoBulk d + uptoBulkAll r
def uptoBulkEntries {H : Type} : List (Lit × DataW H) → Nat
  | [] => 0
  | x :: r => uptoBulkEntry x + uptoBulkEntries r
def uptoBulkEntry {H : Type} : Lit × DataW H → Nat
  | (.string bytes, d) => bytes.length + uptoBulk d + 1
  | (_, d) => uptoBulk d + 1
 end
def uptoSmall : (H : Type) → List (DataW H) → Bool := fun _ ds => decide (uptoBulkAll ds ≤ 1048576)
def OpenSpec.upto (s : _root_.Go.ChangeSpec) : _root_.Go.OpenSpec := { _root_.Go.OpenSpec.ofChange s with cond := some uptoSmall }

/-- 'rivetlaw09.ObjectAll', WHERE WHAT IT READS IS OF BULK AT MOST 1048576: true; the input reads as it did. -/
def objectAllUptoRow : OpenClaim := { program := "ytmfnololpfdfdaadoor", sum := "ae614676bb7e51ec0c2ee6085eca67383b21ff6de7713de10051afc2ba3a296d", func := "rivet/rivetlaw09.ObjectAll", spec := "objectAll", inPlace := ["internal/bytealg.IndexByteString", "internal/bytealg.IndexString"], unfollowed := true, recurses := true, named := ["unicode/utf8.first", "unicode/utf8.acceptRanges", "internal/bytealg.MaxLen"], apart := false, laid := [("unicode/utf8.acceptRanges", laid_unicode_utf8_acceptRanges), ("unicode/utf8.first", laid_unicode_utf8_first)], narrowed := true }
def ObjectAllUptoSaid : Prop := objectAllUptoRow.holds Tryd.pinned (OpenSpec.upto objectAllSpec)

/-- 'rivetlaw09.ObjectSpoilt', WHERE WHAT IT READS IS OF BULK AT MOST 1048576: true; the input reads as it did. -/
def objectSpoiltUptoRow : OpenClaim := { program := "ytmfnololpfdfdaadoor", sum := "ae614676bb7e51ec0c2ee6085eca67383b21ff6de7713de10051afc2ba3a296d", func := "rivet/rivetlaw09.ObjectSpoilt", spec := "objectSpoilt", inPlace := ["internal/bytealg.IndexByteString", "internal/bytealg.IndexString"], unfollowed := true, recurses := true, named := ["unicode/utf8.first", "unicode/utf8.acceptRanges", "internal/bytealg.MaxLen"], apart := false, laid := [("unicode/utf8.acceptRanges", laid_unicode_utf8_acceptRanges), ("unicode/utf8.first", laid_unicode_utf8_first)], narrowed := true }
def ObjectSpoiltUptoSaid : Prop := objectSpoiltUptoRow.holds Tryd.pinned (OpenSpec.upto objectSpoiltSpec)

/-- 'rivetlaw09.ObjectParts', WHERE WHAT IT READS IS OF BULK AT MOST 1048576: true; the input reads as it did. -/
def objectPartsUptoRow : OpenClaim := { program := "ytmfnololpfdfdaadoor", sum := "ae614676bb7e51ec0c2ee6085eca67383b21ff6de7713de10051afc2ba3a296d", func := "rivet/rivetlaw09.ObjectParts", spec := "objectParts", inPlace := ["internal/bytealg.IndexByteString", "internal/bytealg.IndexString"], unfollowed := true, recurses := true, named := ["unicode/utf8.first", "unicode/utf8.acceptRanges", "internal/bytealg.MaxLen"], apart := false, laid := [("unicode/utf8.acceptRanges", laid_unicode_utf8_acceptRanges), ("unicode/utf8.first", laid_unicode_utf8_first)], narrowed := true }
def ObjectPartsUptoSaid : Prop := objectPartsUptoRow.holds Tryd.pinned (OpenSpec.upto objectPartsSpec)

/-- 'rivetlaw09.ObjectUnlike', WHERE WHAT IT READS IS OF BULK AT MOST 1048576: true; the input reads as it did. -/
def objectUnlikeUptoRow : OpenClaim := { program := "ytmfnololpfdfdaadoor", sum := "ae614676bb7e51ec0c2ee6085eca67383b21ff6de7713de10051afc2ba3a296d", func := "rivet/rivetlaw09.ObjectUnlike", spec := "objectUnlike", inPlace := ["internal/bytealg.IndexByteString", "internal/bytealg.IndexString"], unfollowed := true, recurses := true, named := ["unicode/utf8.first", "unicode/utf8.acceptRanges", "internal/bytealg.MaxLen"], apart := false, laid := [("unicode/utf8.acceptRanges", laid_unicode_utf8_acceptRanges), ("unicode/utf8.first", laid_unicode_utf8_first)], narrowed := true }
def ObjectUnlikeUptoSaid : Prop := objectUnlikeUptoRow.holds Tryd.pinned (OpenSpec.upto objectUnlikeSpec)

/-- 'rivetlaw10.FileAll', WHERE WHAT IT READS IS OF BULK AT MOST 1048576: true; the input reads as it did. -/
def fileAllUptoRow : OpenClaim := { program := "ytmfnololpfdfdaadoor", sum := "ae614676bb7e51ec0c2ee6085eca67383b21ff6de7713de10051afc2ba3a296d", func := "rivet/rivetlaw10.FileAll", spec := "fileAll", inPlace := ["internal/bytealg.IndexByteString", "internal/bytealg.IndexString"], unfollowed := true, recurses := true, named := ["unicode/utf8.first", "unicode/utf8.acceptRanges", "internal/bytealg.MaxLen"], apart := false, laid := [("unicode/utf8.acceptRanges", laid_unicode_utf8_acceptRanges), ("unicode/utf8.first", laid_unicode_utf8_first)], narrowed := true }
def FileAllUptoSaid : Prop := fileAllUptoRow.holds Tryd.pinned (OpenSpec.upto fileAllSpec)

/-- 'rivetlaw10.FileBack', WHERE WHAT IT READS IS OF BULK AT MOST 1048576: true; the input reads as it did. -/
def fileBackUptoRow : OpenClaim := { program := "ytmfnololpfdfdaadoor", sum := "ae614676bb7e51ec0c2ee6085eca67383b21ff6de7713de10051afc2ba3a296d", func := "rivet/rivetlaw10.FileBack", spec := "fileBack", inPlace := ["internal/bytealg.IndexByteString", "internal/bytealg.IndexString"], unfollowed := true, recurses := true, named := ["unicode/utf8.first", "unicode/utf8.acceptRanges", "internal/bytealg.MaxLen"], apart := false, laid := [("unicode/utf8.acceptRanges", laid_unicode_utf8_acceptRanges), ("unicode/utf8.first", laid_unicode_utf8_first)], narrowed := true }
def FileBackUptoSaid : Prop := fileBackUptoRow.holds Tryd.pinned (OpenSpec.upto fileBackSpec)

/-- 'rivetlaw10.FileParts', WHERE WHAT IT READS IS OF BULK AT MOST 1048576: true; the input reads as it did. -/
def filePartsUptoRow : OpenClaim := { program := "ytmfnololpfdfdaadoor", sum := "ae614676bb7e51ec0c2ee6085eca67383b21ff6de7713de10051afc2ba3a296d", func := "rivet/rivetlaw10.FileParts", spec := "fileParts", inPlace := ["internal/bytealg.IndexByteString", "internal/bytealg.IndexString"], unfollowed := true, recurses := true, named := ["unicode/utf8.first", "unicode/utf8.acceptRanges", "internal/bytealg.MaxLen"], apart := false, laid := [("unicode/utf8.acceptRanges", laid_unicode_utf8_acceptRanges), ("unicode/utf8.first", laid_unicode_utf8_first)], narrowed := true }
def FilePartsUptoSaid : Prop := filePartsUptoRow.holds Tryd.pinned (OpenSpec.upto filePartsSpec)

/-- 'rivetlaw10.FileNames', WHERE WHAT IT READS IS OF BULK AT MOST 1048576: true; the input reads as it did. -/
def fileNamesUptoRow : OpenClaim := { program := "ytmfnololpfdfdaadoor", sum := "ae614676bb7e51ec0c2ee6085eca67383b21ff6de7713de10051afc2ba3a296d", func := "rivet/rivetlaw10.FileNames", spec := "fileNames", inPlace := ["internal/bytealg.IndexByteString", "internal/bytealg.IndexString"], unfollowed := true, recurses := true, named := ["unicode/utf8.first", "unicode/utf8.acceptRanges", "internal/bytealg.MaxLen"], apart := false, laid := [("unicode/utf8.acceptRanges", laid_unicode_utf8_acceptRanges), ("unicode/utf8.first", laid_unicode_utf8_first)], narrowed := true }
def FileNamesUptoSaid : Prop := fileNamesUptoRow.holds Tryd.pinned (OpenSpec.upto fileNamesSpec)

/-- 'rivetlaw10.FileTaken', WHERE WHAT IT READS IS OF BULK AT MOST 1048576: true; the input reads as it did. -/
def fileTakenUptoRow : OpenClaim := { program := "ytmfnololpfdfdaadoor", sum := "ae614676bb7e51ec0c2ee6085eca67383b21ff6de7713de10051afc2ba3a296d", func := "rivet/rivetlaw10.FileTaken", spec := "fileTaken", inPlace := ["internal/bytealg.IndexByteString", "internal/bytealg.IndexString"], unfollowed := true, recurses := true, named := ["unicode/utf8.first", "unicode/utf8.acceptRanges", "internal/bytealg.MaxLen"], apart := false, laid := [("unicode/utf8.acceptRanges", laid_unicode_utf8_acceptRanges), ("unicode/utf8.first", laid_unicode_utf8_first)], narrowed := true }
def FileTakenUptoSaid : Prop := fileTakenUptoRow.holds Tryd.pinned (OpenSpec.upto fileTakenSpec)

/-- 'rivetlaw10.FileWords', WHERE WHAT IT READS IS OF BULK AT MOST 1048576: true; the input reads as it did. -/
def fileWordsUptoRow : OpenClaim := { program := "ytmfnololpfdfdaadoor", sum := "ae614676bb7e51ec0c2ee6085eca67383b21ff6de7713de10051afc2ba3a296d", func := "rivet/rivetlaw10.FileWords", spec := "fileWords", inPlace := ["internal/bytealg.IndexByteString", "internal/bytealg.IndexString"], unfollowed := true, recurses := true, named := ["unicode/utf8.first", "unicode/utf8.acceptRanges", "internal/bytealg.MaxLen"], apart := false, laid := [("unicode/utf8.acceptRanges", laid_unicode_utf8_acceptRanges), ("unicode/utf8.first", laid_unicode_utf8_first)], narrowed := true }
def FileWordsUptoSaid : Prop := fileWordsUptoRow.holds Tryd.pinned (OpenSpec.upto fileWordsSpec)

end Rows
end Go.Proofs.YtmfnololpfdfdaaDoor
