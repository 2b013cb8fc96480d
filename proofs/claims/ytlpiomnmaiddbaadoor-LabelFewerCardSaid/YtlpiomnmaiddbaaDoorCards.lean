/-
  DERIVED. GIVEN WITH THE SEED: THE CARDS: each row of YtlpiomnmaiddbaaDoorRows.lean that lists a variable, with what it lists TIED to the program's text (the seventh form; the later family's looks); each row that meets fmt, with fmt's text TOLD by the authors' own Lean function (tested against real Go, not proved from fmt's source: count such statements apart). THE CARD IS WHAT COUNTS. Prove the row's statement (the work); the ties are given (YtlpiomnmaiddbaaDoorTie.lean); close each card by the builder's one call (the guide's Derived/Test/ToyasCard.lean, 'card_holds'). Laid BY PROGRAM, IN A SANDBOX (cutbox-door.mjs). By AI agents, Wed Nov 11 2026. No macro, syntax, notation, axiom, sorry.
-/
import Derived.Test.YtlpiomnmaiddbaaDoorRows
import GoSem.ClaimSeven
namespace Go.Proofs.YtlpiomnmaiddbaaDoor
namespace Rows

/-- THE TIED CARD OF 'rivetlaw11.DumpHex'. -/
def dumpHexCard : Claim7 := { stood := { row := dumpHexRow, standIns := [], harness := (true, "90a5d2a72452b3dc0a14b746e5a482c5552382da5f1e4a7724a35735fc481d8e"), looks := false }, kinds := [], alts := [], laidByText := true, laidKinds := [.data, .pinned], laidTests := true, laidLooks := .later }
def DumpHexCardSaid : Prop := Claim7.holds Tryd.pinned (.plain (OpenSpec.ofChange dumpHexSpec)) dumpHexCard

/-- THE TIED CARD OF 'rivetlaw11.DumpAll'. -/
def dumpAllCard : Claim7 := { stood := { row := dumpAllRow, standIns := [], harness := (true, "90a5d2a72452b3dc0a14b746e5a482c5552382da5f1e4a7724a35735fc481d8e"), looks := false }, kinds := [], alts := [], laidByText := true, laidKinds := [.data, .pinned], laidTests := true, laidLooks := .later }
def DumpAllCardSaid : Prop := Claim7.holds Tryd.pinned (.plain (OpenSpec.ofChange dumpAllSpec)) dumpAllCard

/-- THE TIED CARD OF 'rivetlaw11.DumpTaken'. -/
def dumpTakenCard : Claim7 := { stood := { row := dumpTakenRow, standIns := [], harness := (true, "90a5d2a72452b3dc0a14b746e5a482c5552382da5f1e4a7724a35735fc481d8e"), looks := false }, kinds := [], alts := [], laidByText := true, laidKinds := [.data, .pinned], laidTests := true, laidLooks := .later }
def DumpTakenCardSaid : Prop := Claim7.holds Tryd.pinned (.plain (OpenSpec.ofChange dumpTakenSpec)) dumpTakenCard

/-- THE TIED CARD OF 'rivetlaw11.DumpLines'. -/
def dumpLinesCard : Claim7 := { stood := { row := dumpLinesRow, standIns := [], harness := (true, "90a5d2a72452b3dc0a14b746e5a482c5552382da5f1e4a7724a35735fc481d8e"), looks := false }, kinds := [], alts := [], laidByText := true, laidKinds := [.data, .pinned], laidTests := true, laidLooks := .later }
def DumpLinesCardSaid : Prop := Claim7.holds Tryd.pinned (.plain (OpenSpec.ofChange dumpLinesSpec)) dumpLinesCard

/-- THE TIED CARD OF 'rivetlaw11.DumpBack'. -/
def dumpBackCard : Claim7 := { stood := { row := dumpBackRow, standIns := [], harness := (true, "90a5d2a72452b3dc0a14b746e5a482c5552382da5f1e4a7724a35735fc481d8e"), looks := false }, kinds := [], alts := [], laidByText := true, laidKinds := [.data, .pinned], laidTests := true, laidLooks := .later }
def DumpBackCardSaid : Prop := Claim7.holds Tryd.pinned (.plain (OpenSpec.ofChange dumpBackSpec)) dumpBackCard

/-- THE TIED CARD OF 'rivetlaw22.LabelNeeds'. -/
def labelNeedsCard : Claim7 := { stood := { row := labelNeedsRow, standIns := [], harness := (true, "90a5d2a72452b3dc0a14b746e5a482c5552382da5f1e4a7724a35735fc481d8e"), looks := false }, kinds := [], alts := [], laidByText := true, laidKinds := [.data, .pinned], laidTests := true, laidLooks := .later }
def LabelNeedsCardSaid : Prop := Claim7.holds Tryd.pinned (.plain (OpenSpec.ofChange labelNeedsSpec)) labelNeedsCard

/-- THE TIED CARD OF 'rivetlaw22.LabelFewer'. -/
def labelFewerCard : Claim7 := { stood := { row := labelFewerRow, standIns := [], harness := (true, "90a5d2a72452b3dc0a14b746e5a482c5552382da5f1e4a7724a35735fc481d8e"), looks := false }, kinds := [], alts := [], laidByText := true, laidKinds := [.data, .pinned], laidTests := true, laidLooks := .later }
def LabelFewerCardSaid : Prop := Claim7.holds Tryd.pinned (.plain (OpenSpec.ofChange labelFewerSpec)) labelFewerCard

/-- THE TIED CARD OF 'rivetlaw22.LabelJumps'. -/
def labelJumpsCard : Claim7 := { stood := { row := labelJumpsRow, standIns := [], harness := (true, "90a5d2a72452b3dc0a14b746e5a482c5552382da5f1e4a7724a35735fc481d8e"), looks := false }, kinds := [], alts := [], laidByText := true, laidKinds := [.data, .pinned], laidTests := true, laidLooks := .later }
def LabelJumpsCardSaid : Prop := Claim7.holds Tryd.pinned (.plain (OpenSpec.ofChange labelJumpsSpec)) labelJumpsCard

/-- THE TIED CARD OF 'rivetlaw22.LabelNames'. -/
def labelNamesCard : Claim7 := { stood := { row := labelNamesRow, standIns := [], harness := (true, "90a5d2a72452b3dc0a14b746e5a482c5552382da5f1e4a7724a35735fc481d8e"), looks := false }, kinds := [], alts := [], laidByText := true, laidKinds := [.data, .pinned], laidTests := true, laidLooks := .later }
def LabelNamesCardSaid : Prop := Claim7.holds Tryd.pinned (.plain (OpenSpec.ofChange labelNamesSpec)) labelNamesCard

/-- THE SECOND FORM's CARD OF 'rivetlaw11.DumpHex'. -/
def dumpHexUptoCard : Claim7 := { stood := { row := dumpHexUptoRow, standIns := [], harness := (true, "90a5d2a72452b3dc0a14b746e5a482c5552382da5f1e4a7724a35735fc481d8e"), looks := false }, kinds := [], alts := [], laidByText := true, laidKinds := [.data, .pinned], laidTests := true, laidLooks := .later }
def DumpHexUptoCardSaid : Prop := Claim7.holds Tryd.pinned (.plain (OpenSpec.upto dumpHexSpec)) dumpHexUptoCard

/-- THE SECOND FORM's CARD OF 'rivetlaw11.DumpAll'. -/
def dumpAllUptoCard : Claim7 := { stood := { row := dumpAllUptoRow, standIns := [], harness := (true, "90a5d2a72452b3dc0a14b746e5a482c5552382da5f1e4a7724a35735fc481d8e"), looks := false }, kinds := [], alts := [], laidByText := true, laidKinds := [.data, .pinned], laidTests := true, laidLooks := .later }
def DumpAllUptoCardSaid : Prop := Claim7.holds Tryd.pinned (.plain (OpenSpec.upto dumpAllSpec)) dumpAllUptoCard

/-- THE SECOND FORM's CARD OF 'rivetlaw11.DumpTaken'. -/
def dumpTakenUptoCard : Claim7 := { stood := { row := dumpTakenUptoRow, standIns := [], harness := (true, "90a5d2a72452b3dc0a14b746e5a482c5552382da5f1e4a7724a35735fc481d8e"), looks := false }, kinds := [], alts := [], laidByText := true, laidKinds := [.data, .pinned], laidTests := true, laidLooks := .later }
def DumpTakenUptoCardSaid : Prop := Claim7.holds Tryd.pinned (.plain (OpenSpec.upto dumpTakenSpec)) dumpTakenUptoCard

/-- THE SECOND FORM's CARD OF 'rivetlaw11.DumpLines'. -/
def dumpLinesUptoCard : Claim7 := { stood := { row := dumpLinesUptoRow, standIns := [], harness := (true, "90a5d2a72452b3dc0a14b746e5a482c5552382da5f1e4a7724a35735fc481d8e"), looks := false }, kinds := [], alts := [], laidByText := true, laidKinds := [.data, .pinned], laidTests := true, laidLooks := .later }
def DumpLinesUptoCardSaid : Prop := Claim7.holds Tryd.pinned (.plain (OpenSpec.upto dumpLinesSpec)) dumpLinesUptoCard

/-- THE SECOND FORM's CARD OF 'rivetlaw11.DumpBack'. -/
def dumpBackUptoCard : Claim7 := { stood := { row := dumpBackUptoRow, standIns := [], harness := (true, "90a5d2a72452b3dc0a14b746e5a482c5552382da5f1e4a7724a35735fc481d8e"), looks := false }, kinds := [], alts := [], laidByText := true, laidKinds := [.data, .pinned], laidTests := true, laidLooks := .later }
def DumpBackUptoCardSaid : Prop := Claim7.holds Tryd.pinned (.plain (OpenSpec.upto dumpBackSpec)) dumpBackUptoCard

/-- THE SECOND FORM's CARD OF 'rivetlaw22.LabelNeeds'. -/
def labelNeedsUptoCard : Claim7 := { stood := { row := labelNeedsUptoRow, standIns := [], harness := (true, "90a5d2a72452b3dc0a14b746e5a482c5552382da5f1e4a7724a35735fc481d8e"), looks := false }, kinds := [], alts := [], laidByText := true, laidKinds := [.data, .pinned], laidTests := true, laidLooks := .later }
def LabelNeedsUptoCardSaid : Prop := Claim7.holds Tryd.pinned (.plain (OpenSpec.upto labelNeedsSpec)) labelNeedsUptoCard

/-- THE SECOND FORM's CARD OF 'rivetlaw22.LabelFewer'. -/
def labelFewerUptoCard : Claim7 := { stood := { row := labelFewerUptoRow, standIns := [], harness := (true, "90a5d2a72452b3dc0a14b746e5a482c5552382da5f1e4a7724a35735fc481d8e"), looks := false }, kinds := [], alts := [], laidByText := true, laidKinds := [.data, .pinned], laidTests := true, laidLooks := .later }
def LabelFewerUptoCardSaid : Prop := Claim7.holds Tryd.pinned (.plain (OpenSpec.upto labelFewerSpec)) labelFewerUptoCard

/-- THE SECOND FORM's CARD OF 'rivetlaw22.LabelJumps'. -/
def labelJumpsUptoCard : Claim7 := { stood := { row := labelJumpsUptoRow, standIns := [], harness := (true, "90a5d2a72452b3dc0a14b746e5a482c5552382da5f1e4a7724a35735fc481d8e"), looks := false }, kinds := [], alts := [], laidByText := true, laidKinds := [.data, .pinned], laidTests := true, laidLooks := .later }
def LabelJumpsUptoCardSaid : Prop := Claim7.holds Tryd.pinned (.plain (OpenSpec.upto labelJumpsSpec)) labelJumpsUptoCard

/-- THE SECOND FORM's CARD OF 'rivetlaw22.LabelNames'. -/
def labelNamesUptoCard : Claim7 := { stood := { row := labelNamesUptoRow, standIns := [], harness := (true, "90a5d2a72452b3dc0a14b746e5a482c5552382da5f1e4a7724a35735fc481d8e"), looks := false }, kinds := [], alts := [], laidByText := true, laidKinds := [.data, .pinned], laidTests := true, laidLooks := .later }
def LabelNamesUptoCardSaid : Prop := Claim7.holds Tryd.pinned (.plain (OpenSpec.upto labelNamesSpec)) labelNamesUptoCard
end Rows
end Go.Proofs.YtlpiomnmaiddbaaDoor
