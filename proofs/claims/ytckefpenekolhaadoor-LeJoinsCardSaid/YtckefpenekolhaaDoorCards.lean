/-
  DERIVED. GIVEN WITH THE SEED: THE CARDS: each row of YtckefpenekolhaaDoorRows.lean that lists a variable, with what it lists TIED to the program's text (the seventh form; the later family's looks); each row that meets fmt, with fmt's text TOLD by the authors' own Lean function (tested against real Go, not proved from fmt's source: count such statements apart). THE CARD IS WHAT COUNTS. Prove the row's statement (the work); the ties are given (YtckefpenekolhaaDoorTie.lean); close each card by the builder's one call (the guide's Derived/Test/ToyasCard.lean, 'card_holds'). Laid BY PROGRAM, IN A SANDBOX (cutbox-door.mjs). By AI agents, Wed Nov 11 2026. No macro, syntax, notation, axiom, sorry.
-/
import Derived.Test.YtckefpenekolhaaDoorRows
import GoSem.ClaimSeven
namespace Go.Proofs.YtckefpenekolhaaDoor
namespace Rows

/-- THE TIED CARD OF 'rivetlaw07.LeNames'. -/
def leNamesCard : Claim7 := { stood := { row := leNamesRow, standIns := [], harness := (true, "2ec9ebab4e13f06b7adc9a9f587060d324222274d3b5ee608b72387b549f7346"), looks := false }, kinds := [], alts := [], laidByText := true, laidKinds := [.data, .pinned], laidTests := true, laidLooks := .later }
def LeNamesCardSaid : Prop := Claim7.holds Tryd.pinned (.plain (OpenSpec.ofChange leNamesSpec)) leNamesCard

/-- THE TIED CARD OF 'rivetlaw07.LeAll'. -/
def leAllCard : Claim7 := { stood := { row := leAllRow, standIns := [], harness := (true, "2ec9ebab4e13f06b7adc9a9f587060d324222274d3b5ee608b72387b549f7346"), looks := false }, kinds := [], alts := [], laidByText := true, laidKinds := [.data, .pinned], laidTests := true, laidLooks := .later }
def LeAllCardSaid : Prop := Claim7.holds Tryd.pinned (.plain (OpenSpec.ofChange leAllSpec)) leAllCard

/-- THE TIED CARD OF 'rivetlaw07.LeBack'. -/
def leBackCard : Claim7 := { stood := { row := leBackRow, standIns := [], harness := (true, "2ec9ebab4e13f06b7adc9a9f587060d324222274d3b5ee608b72387b549f7346"), looks := false }, kinds := [], alts := [], laidByText := true, laidKinds := [.data, .pinned], laidTests := true, laidLooks := .later }
def LeBackCardSaid : Prop := Claim7.holds Tryd.pinned (.plain (OpenSpec.ofChange leBackSpec)) leBackCard

/-- THE TIED CARD OF 'rivetlaw07.LeTaken'. -/
def leTakenCard : Claim7 := { stood := { row := leTakenRow, standIns := [], harness := (true, "2ec9ebab4e13f06b7adc9a9f587060d324222274d3b5ee608b72387b549f7346"), looks := false }, kinds := [], alts := [], laidByText := true, laidKinds := [.data, .pinned], laidTests := true, laidLooks := .later }
def LeTakenCardSaid : Prop := Claim7.holds Tryd.pinned (.plain (OpenSpec.ofChange leTakenSpec)) leTakenCard

/-- THE TIED CARD OF 'rivetlaw07.LeJoins'. -/
def leJoinsCard : Claim7 := { stood := { row := leJoinsRow, standIns := [], harness := (true, "2ec9ebab4e13f06b7adc9a9f587060d324222274d3b5ee608b72387b549f7346"), looks := false }, kinds := [], alts := [], laidByText := true, laidKinds := [.data, .pinned], laidTests := true, laidLooks := .later }
def LeJoinsCardSaid : Prop := Claim7.holds Tryd.pinned (.plain (OpenSpec.ofChange leJoinsSpec)) leJoinsCard

/-- THE SECOND FORM's CARD OF 'rivetlaw07.LeNames'. -/
def leNamesUptoCard : Claim7 := { stood := { row := leNamesUptoRow, standIns := [], harness := (true, "2ec9ebab4e13f06b7adc9a9f587060d324222274d3b5ee608b72387b549f7346"), looks := false }, kinds := [], alts := [], laidByText := true, laidKinds := [.data, .pinned], laidTests := true, laidLooks := .later }
def LeNamesUptoCardSaid : Prop := Claim7.holds Tryd.pinned (.plain (OpenSpec.upto leNamesSpec)) leNamesUptoCard

/-- THE SECOND FORM's CARD OF 'rivetlaw07.LeAll'. -/
def leAllUptoCard : Claim7 := { stood := { row := leAllUptoRow, standIns := [], harness := (true, "2ec9ebab4e13f06b7adc9a9f587060d324222274d3b5ee608b72387b549f7346"), looks := false }, kinds := [], alts := [], laidByText := true, laidKinds := [.data, .pinned], laidTests := true, laidLooks := .later }
def LeAllUptoCardSaid : Prop := Claim7.holds Tryd.pinned (.plain (OpenSpec.upto leAllSpec)) leAllUptoCard

/-- THE SECOND FORM's CARD OF 'rivetlaw07.LeBack'. -/
def leBackUptoCard : Claim7 := { stood := { row := leBackUptoRow, standIns := [], harness := (true, "2ec9ebab4e13f06b7adc9a9f587060d324222274d3b5ee608b72387b549f7346"), looks := false }, kinds := [], alts := [], laidByText := true, laidKinds := [.data, .pinned], laidTests := true, laidLooks := .later }
def LeBackUptoCardSaid : Prop := Claim7.holds Tryd.pinned (.plain (OpenSpec.upto leBackSpec)) leBackUptoCard

/-- THE SECOND FORM's CARD OF 'rivetlaw07.LeTaken'. -/
def leTakenUptoCard : Claim7 := { stood := { row := leTakenUptoRow, standIns := [], harness := (true, "2ec9ebab4e13f06b7adc9a9f587060d324222274d3b5ee608b72387b549f7346"), looks := false }, kinds := [], alts := [], laidByText := true, laidKinds := [.data, .pinned], laidTests := true, laidLooks := .later }
def LeTakenUptoCardSaid : Prop := Claim7.holds Tryd.pinned (.plain (OpenSpec.upto leTakenSpec)) leTakenUptoCard

/-- THE SECOND FORM's CARD OF 'rivetlaw07.LeJoins'. -/
def leJoinsUptoCard : Claim7 := { stood := { row := leJoinsUptoRow, standIns := [], harness := (true, "2ec9ebab4e13f06b7adc9a9f587060d324222274d3b5ee608b72387b549f7346"), looks := false }, kinds := [], alts := [], laidByText := true, laidKinds := [.data, .pinned], laidTests := true, laidLooks := .later }
def LeJoinsUptoCardSaid : Prop := Claim7.holds Tryd.pinned (.plain (OpenSpec.upto leJoinsSpec)) leJoinsUptoCard
end Rows
end Go.Proofs.YtckefpenekolhaaDoor
