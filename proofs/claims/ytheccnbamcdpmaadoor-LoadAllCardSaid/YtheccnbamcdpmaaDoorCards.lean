/-
  DERIVED. GIVEN WITH THE SEED: THE CARDS: each row of YtheccnbamcdpmaaDoorRows.lean that lists a variable, with what it lists TIED to the program's text (the seventh form; the later family's looks); each row that meets fmt, with fmt's text TOLD by the authors' own Lean function (tested against real Go, not proved from fmt's source: count such statements apart). THE CARD IS WHAT COUNTS. Prove the row's statement (the work); the ties are given (YtheccnbamcdpmaaDoorTie.lean); close each card by the builder's one call (the guide's Derived/Test/ToyasCard.lean, 'card_holds'). Laid BY PROGRAM, IN A SANDBOX (cutbox-door.mjs). By AI agents, Wed Nov 11 2026. No macro, syntax, notation, axiom, sorry.
-/
import Derived.Test.YtheccnbamcdpmaaDoorRows
import GoSem.ClaimSeven
namespace Go.Proofs.YtheccnbamcdpmaaDoor
namespace Rows

/-- THE TIED CARD OF 'rivetlaw12.LoadTwice'. -/
def loadTwiceCard : Claim7 := { stood := { row := loadTwiceRow, standIns := [], harness := (true, "78158d48992f4f475614602b131000ef0f7a29b3f2e7169cc325525294f43a77"), looks := false }, kinds := [], alts := [], laidByText := true, laidKinds := [.data, .pinned], laidTests := true, laidLooks := .later }
def LoadTwiceCardSaid : Prop := Claim7.holds Tryd.pinned (.plain (OpenSpec.ofChange loadTwiceSpec)) loadTwiceCard

/-- THE TIED CARD OF 'rivetlaw12.LoadShifts'. -/
def loadShiftsCard : Claim7 := { stood := { row := loadShiftsRow, standIns := [], harness := (true, "78158d48992f4f475614602b131000ef0f7a29b3f2e7169cc325525294f43a77"), looks := false }, kinds := [], alts := [], laidByText := true, laidKinds := [.data, .pinned], laidTests := true, laidLooks := .later }
def LoadShiftsCardSaid : Prop := Claim7.holds Tryd.pinned (.plain (OpenSpec.ofChange loadShiftsSpec)) loadShiftsCard

/-- THE TIED CARD OF 'rivetlaw12.LoadAll'. -/
def loadAllCard : Claim7 := { stood := { row := loadAllRow, standIns := [], harness := (true, "78158d48992f4f475614602b131000ef0f7a29b3f2e7169cc325525294f43a77"), looks := false }, kinds := [], alts := [], laidByText := true, laidKinds := [.data, .pinned], laidTests := true, laidLooks := .later }
def LoadAllCardSaid : Prop := Claim7.holds Tryd.pinned (.plain (OpenSpec.ofChange loadAllSpec)) loadAllCard

/-- THE TIED CARD OF 'rivetlaw12.LoadStarts'. -/
def loadStartsCard : Claim7 := { stood := { row := loadStartsRow, standIns := [], harness := (true, "78158d48992f4f475614602b131000ef0f7a29b3f2e7169cc325525294f43a77"), looks := false }, kinds := [], alts := [], laidByText := true, laidKinds := [.data, .pinned], laidTests := true, laidLooks := .later }
def LoadStartsCardSaid : Prop := Claim7.holds Tryd.pinned (.plain (OpenSpec.ofChange loadStartsSpec)) loadStartsCard

/-- THE SECOND FORM's CARD OF 'rivetlaw12.LoadTwice'. -/
def loadTwiceUptoCard : Claim7 := { stood := { row := loadTwiceUptoRow, standIns := [], harness := (true, "78158d48992f4f475614602b131000ef0f7a29b3f2e7169cc325525294f43a77"), looks := false }, kinds := [], alts := [], laidByText := true, laidKinds := [.data, .pinned], laidTests := true, laidLooks := .later }
def LoadTwiceUptoCardSaid : Prop := Claim7.holds Tryd.pinned (.plain (OpenSpec.upto loadTwiceSpec)) loadTwiceUptoCard

/-- THE SECOND FORM's CARD OF 'rivetlaw12.LoadShifts'. -/
def loadShiftsUptoCard : Claim7 := { stood := { row := loadShiftsUptoRow, standIns := [], harness := (true, "78158d48992f4f475614602b131000ef0f7a29b3f2e7169cc325525294f43a77"), looks := false }, kinds := [], alts := [], laidByText := true, laidKinds := [.data, .pinned], laidTests := true, laidLooks := .later }
def LoadShiftsUptoCardSaid : Prop := Claim7.holds Tryd.pinned (.plain (OpenSpec.upto loadShiftsSpec)) loadShiftsUptoCard

/-- THE SECOND FORM's CARD OF 'rivetlaw12.LoadAll'. -/
def loadAllUptoCard : Claim7 := { stood := { row := loadAllUptoRow, standIns := [], harness := (true, "78158d48992f4f475614602b131000ef0f7a29b3f2e7169cc325525294f43a77"), looks := false }, kinds := [], alts := [], laidByText := true, laidKinds := [.data, .pinned], laidTests := true, laidLooks := .later }
def LoadAllUptoCardSaid : Prop := Claim7.holds Tryd.pinned (.plain (OpenSpec.upto loadAllSpec)) loadAllUptoCard

/-- THE SECOND FORM's CARD OF 'rivetlaw12.LoadStarts'. -/
def loadStartsUptoCard : Claim7 := { stood := { row := loadStartsUptoRow, standIns := [], harness := (true, "78158d48992f4f475614602b131000ef0f7a29b3f2e7169cc325525294f43a77"), looks := false }, kinds := [], alts := [], laidByText := true, laidKinds := [.data, .pinned], laidTests := true, laidLooks := .later }
def LoadStartsUptoCardSaid : Prop := Claim7.holds Tryd.pinned (.plain (OpenSpec.upto loadStartsSpec)) loadStartsUptoCard
end Rows
end Go.Proofs.YtheccnbamcdpmaaDoor
