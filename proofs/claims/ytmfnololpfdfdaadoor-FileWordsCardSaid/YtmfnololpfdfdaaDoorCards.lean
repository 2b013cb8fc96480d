/-
  DERIVED. GIVEN WITH THE SEED: THE CARDS: each row of YtmfnololpfdfdaaDoorRows.lean that lists a variable, with what it lists TIED to the program's text (the seventh form; the later family's looks); each row that meets fmt, with fmt's text TOLD by the authors' own Lean function (tested against real Go, not proved from fmt's source: count such statements apart). THE CARD IS WHAT COUNTS. Prove the row's statement (the work); the ties are given (YtmfnololpfdfdaaDoorTie.lean); close each card by the builder's one call (the guide's Derived/Test/ToyasCard.lean, 'card_holds'). Laid BY PROGRAM, IN A SANDBOX (cutbox-door.mjs). By AI agents, Wed Nov 11 2026. No macro, syntax, notation, axiom, sorry.
-/
import Derived.Test.YtmfnololpfdfdaaDoorRows
import GoSem.ClaimSeven
namespace Go.Proofs.YtmfnololpfdfdaaDoor
namespace Rows

/-- THE TIED CARD OF 'rivetlaw09.ObjectAll'. -/
def objectAllCard : Claim7 := { stood := { row := objectAllRow, standIns := [], harness := (true, "310fd94ad1f1f615751a34ac6d76e8ee9fb4b08c8ac8797c6fcef604a2c7fb9e"), looks := false }, kinds := [], alts := [], laidByText := true, laidKinds := [.data, .pinned], laidTests := true, laidLooks := .later }
def ObjectAllCardSaid : Prop := Claim7.holds Tryd.pinned (.plain (OpenSpec.ofChange objectAllSpec)) objectAllCard

/-- THE TIED CARD OF 'rivetlaw09.ObjectSpoilt'. -/
def objectSpoiltCard : Claim7 := { stood := { row := objectSpoiltRow, standIns := [], harness := (true, "310fd94ad1f1f615751a34ac6d76e8ee9fb4b08c8ac8797c6fcef604a2c7fb9e"), looks := false }, kinds := [], alts := [], laidByText := true, laidKinds := [.data, .pinned], laidTests := true, laidLooks := .later }
def ObjectSpoiltCardSaid : Prop := Claim7.holds Tryd.pinned (.plain (OpenSpec.ofChange objectSpoiltSpec)) objectSpoiltCard

/-- THE TIED CARD OF 'rivetlaw09.ObjectParts'. -/
def objectPartsCard : Claim7 := { stood := { row := objectPartsRow, standIns := [], harness := (true, "310fd94ad1f1f615751a34ac6d76e8ee9fb4b08c8ac8797c6fcef604a2c7fb9e"), looks := false }, kinds := [], alts := [], laidByText := true, laidKinds := [.data, .pinned], laidTests := true, laidLooks := .later }
def ObjectPartsCardSaid : Prop := Claim7.holds Tryd.pinned (.plain (OpenSpec.ofChange objectPartsSpec)) objectPartsCard

/-- THE TIED CARD OF 'rivetlaw09.ObjectUnlike'. -/
def objectUnlikeCard : Claim7 := { stood := { row := objectUnlikeRow, standIns := [], harness := (true, "310fd94ad1f1f615751a34ac6d76e8ee9fb4b08c8ac8797c6fcef604a2c7fb9e"), looks := false }, kinds := [], alts := [], laidByText := true, laidKinds := [.data, .pinned], laidTests := true, laidLooks := .later }
def ObjectUnlikeCardSaid : Prop := Claim7.holds Tryd.pinned (.plain (OpenSpec.ofChange objectUnlikeSpec)) objectUnlikeCard

/-- THE TIED CARD OF 'rivetlaw10.FileAll'. -/
def fileAllCard : Claim7 := { stood := { row := fileAllRow, standIns := [], harness := (true, "310fd94ad1f1f615751a34ac6d76e8ee9fb4b08c8ac8797c6fcef604a2c7fb9e"), looks := false }, kinds := [], alts := [], laidByText := true, laidKinds := [.data, .pinned], laidTests := true, laidLooks := .later }
def FileAllCardSaid : Prop := Claim7.holds Tryd.pinned (.plain (OpenSpec.ofChange fileAllSpec)) fileAllCard

/-- THE TIED CARD OF 'rivetlaw10.FileBack'. -/
def fileBackCard : Claim7 := { stood := { row := fileBackRow, standIns := [], harness := (true, "310fd94ad1f1f615751a34ac6d76e8ee9fb4b08c8ac8797c6fcef604a2c7fb9e"), looks := false }, kinds := [], alts := [], laidByText := true, laidKinds := [.data, .pinned], laidTests := true, laidLooks := .later }
def FileBackCardSaid : Prop := Claim7.holds Tryd.pinned (.plain (OpenSpec.ofChange fileBackSpec)) fileBackCard

/-- THE TIED CARD OF 'rivetlaw10.FileParts'. -/
def filePartsCard : Claim7 := { stood := { row := filePartsRow, standIns := [], harness := (true, "310fd94ad1f1f615751a34ac6d76e8ee9fb4b08c8ac8797c6fcef604a2c7fb9e"), looks := false }, kinds := [], alts := [], laidByText := true, laidKinds := [.data, .pinned], laidTests := true, laidLooks := .later }
def FilePartsCardSaid : Prop := Claim7.holds Tryd.pinned (.plain (OpenSpec.ofChange filePartsSpec)) filePartsCard

/-- THE TIED CARD OF 'rivetlaw10.FileNames'. -/
def fileNamesCard : Claim7 := { stood := { row := fileNamesRow, standIns := [], harness := (true, "310fd94ad1f1f615751a34ac6d76e8ee9fb4b08c8ac8797c6fcef604a2c7fb9e"), looks := false }, kinds := [], alts := [], laidByText := true, laidKinds := [.data, .pinned], laidTests := true, laidLooks := .later }
def FileNamesCardSaid : Prop := Claim7.holds Tryd.pinned (.plain (OpenSpec.ofChange fileNamesSpec)) fileNamesCard

/-- THE TIED CARD OF 'rivetlaw10.FileTaken'. -/
def fileTakenCard : Claim7 := { stood := { row := fileTakenRow, standIns := [], harness := (true, "310fd94ad1f1f615751a34ac6d76e8ee9fb4b08c8ac8797c6fcef604a2c7fb9e"), looks := false }, kinds := [], alts := [], laidByText := true, laidKinds := [.data, .pinned], laidTests := true, laidLooks := .later }
def FileTakenCardSaid : Prop := Claim7.holds Tryd.pinned (.plain (OpenSpec.ofChange fileTakenSpec)) fileTakenCard

/-- THE TIED CARD OF 'rivetlaw10.FileWords'. -/
def fileWordsCard : Claim7 := { stood := { row := fileWordsRow, standIns := [], harness := (true, "310fd94ad1f1f615751a34ac6d76e8ee9fb4b08c8ac8797c6fcef604a2c7fb9e"), looks := false }, kinds := [], alts := [], laidByText := true, laidKinds := [.data, .pinned], laidTests := true, laidLooks := .later }
def FileWordsCardSaid : Prop := Claim7.holds Tryd.pinned (.plain (OpenSpec.ofChange fileWordsSpec)) fileWordsCard

/-- THE SECOND FORM's CARD OF 'rivetlaw09.ObjectAll'. -/
def objectAllUptoCard : Claim7 := { stood := { row := objectAllUptoRow, standIns := [], harness := (true, "310fd94ad1f1f615751a34ac6d76e8ee9fb4b08c8ac8797c6fcef604a2c7fb9e"), looks := false }, kinds := [], alts := [], laidByText := true, laidKinds := [.data, .pinned], laidTests := true, laidLooks := .later }
def ObjectAllUptoCardSaid : Prop := Claim7.holds Tryd.pinned (.plain (OpenSpec.upto objectAllSpec)) objectAllUptoCard

/-- THE SECOND FORM's CARD OF 'rivetlaw09.ObjectSpoilt'. -/
def objectSpoiltUptoCard : Claim7 := { stood := { row := objectSpoiltUptoRow, standIns := [], harness := (true, "310fd94ad1f1f615751a34ac6d76e8ee9fb4b08c8ac8797c6fcef604a2c7fb9e"), looks := false }, kinds := [], alts := [], laidByText := true, laidKinds := [.data, .pinned], laidTests := true, laidLooks := .later }
def ObjectSpoiltUptoCardSaid : Prop := Claim7.holds Tryd.pinned (.plain (OpenSpec.upto objectSpoiltSpec)) objectSpoiltUptoCard

/-- THE SECOND FORM's CARD OF 'rivetlaw09.ObjectParts'. -/
def objectPartsUptoCard : Claim7 := { stood := { row := objectPartsUptoRow, standIns := [], harness := (true, "310fd94ad1f1f615751a34ac6d76e8ee9fb4b08c8ac8797c6fcef604a2c7fb9e"), looks := false }, kinds := [], alts := [], laidByText := true, laidKinds := [.data, .pinned], laidTests := true, laidLooks := .later }
def ObjectPartsUptoCardSaid : Prop := Claim7.holds Tryd.pinned (.plain (OpenSpec.upto objectPartsSpec)) objectPartsUptoCard

/-- THE SECOND FORM's CARD OF 'rivetlaw09.ObjectUnlike'. -/
def objectUnlikeUptoCard : Claim7 := { stood := { row := objectUnlikeUptoRow, standIns := [], harness := (true, "310fd94ad1f1f615751a34ac6d76e8ee9fb4b08c8ac8797c6fcef604a2c7fb9e"), looks := false }, kinds := [], alts := [], laidByText := true, laidKinds := [.data, .pinned], laidTests := true, laidLooks := .later }
def ObjectUnlikeUptoCardSaid : Prop := Claim7.holds Tryd.pinned (.plain (OpenSpec.upto objectUnlikeSpec)) objectUnlikeUptoCard

/-- THE SECOND FORM's CARD OF 'rivetlaw10.FileAll'. -/
def fileAllUptoCard : Claim7 := { stood := { row := fileAllUptoRow, standIns := [], harness := (true, "310fd94ad1f1f615751a34ac6d76e8ee9fb4b08c8ac8797c6fcef604a2c7fb9e"), looks := false }, kinds := [], alts := [], laidByText := true, laidKinds := [.data, .pinned], laidTests := true, laidLooks := .later }
def FileAllUptoCardSaid : Prop := Claim7.holds Tryd.pinned (.plain (OpenSpec.upto fileAllSpec)) fileAllUptoCard

/-- THE SECOND FORM's CARD OF 'rivetlaw10.FileBack'. -/
def fileBackUptoCard : Claim7 := { stood := { row := fileBackUptoRow, standIns := [], harness := (true, "310fd94ad1f1f615751a34ac6d76e8ee9fb4b08c8ac8797c6fcef604a2c7fb9e"), looks := false }, kinds := [], alts := [], laidByText := true, laidKinds := [.data, .pinned], laidTests := true, laidLooks := .later }
def FileBackUptoCardSaid : Prop := Claim7.holds Tryd.pinned (.plain (OpenSpec.upto fileBackSpec)) fileBackUptoCard

/-- THE SECOND FORM's CARD OF 'rivetlaw10.FileParts'. -/
def filePartsUptoCard : Claim7 := { stood := { row := filePartsUptoRow, standIns := [], harness := (true, "310fd94ad1f1f615751a34ac6d76e8ee9fb4b08c8ac8797c6fcef604a2c7fb9e"), looks := false }, kinds := [], alts := [], laidByText := true, laidKinds := [.data, .pinned], laidTests := true, laidLooks := .later }
def FilePartsUptoCardSaid : Prop := Claim7.holds Tryd.pinned (.plain (OpenSpec.upto filePartsSpec)) filePartsUptoCard

/-- THE SECOND FORM's CARD OF 'rivetlaw10.FileNames'. -/
def fileNamesUptoCard : Claim7 := { stood := { row := fileNamesUptoRow, standIns := [], harness := (true, "310fd94ad1f1f615751a34ac6d76e8ee9fb4b08c8ac8797c6fcef604a2c7fb9e"), looks := false }, kinds := [], alts := [], laidByText := true, laidKinds := [.data, .pinned], laidTests := true, laidLooks := .later }
def FileNamesUptoCardSaid : Prop := Claim7.holds Tryd.pinned (.plain (OpenSpec.upto fileNamesSpec)) fileNamesUptoCard

/-- THE SECOND FORM's CARD OF 'rivetlaw10.FileTaken'. -/
def fileTakenUptoCard : Claim7 := { stood := { row := fileTakenUptoRow, standIns := [], harness := (true, "310fd94ad1f1f615751a34ac6d76e8ee9fb4b08c8ac8797c6fcef604a2c7fb9e"), looks := false }, kinds := [], alts := [], laidByText := true, laidKinds := [.data, .pinned], laidTests := true, laidLooks := .later }
def FileTakenUptoCardSaid : Prop := Claim7.holds Tryd.pinned (.plain (OpenSpec.upto fileTakenSpec)) fileTakenUptoCard

/-- THE SECOND FORM's CARD OF 'rivetlaw10.FileWords'. -/
def fileWordsUptoCard : Claim7 := { stood := { row := fileWordsUptoRow, standIns := [], harness := (true, "310fd94ad1f1f615751a34ac6d76e8ee9fb4b08c8ac8797c6fcef604a2c7fb9e"), looks := false }, kinds := [], alts := [], laidByText := true, laidKinds := [.data, .pinned], laidTests := true, laidLooks := .later }
def FileWordsUptoCardSaid : Prop := Claim7.holds Tryd.pinned (.plain (OpenSpec.upto fileWordsSpec)) fileWordsUptoCard
end Rows
end Go.Proofs.YtmfnololpfdfdaaDoor
