/-
  DERIVED. GIVEN WITH THE SEED: THE CARDS: each row of YtheccnbamcdpmaaGreatDoorRows.lean that lists a variable, with what it lists TIED to the program's text (the seventh form; the later family's looks); each row that meets fmt, with fmt's text TOLD by the authors' own Lean function (tested against real Go, not proved from fmt's source: count such statements apart). THE CARD IS WHAT COUNTS. Prove the row's statement (the work); the ties are given (YtheccnbamcdpmaaGreatDoorTie.lean); close each card by the builder's one call (the guide's Derived/Test/ToyasCard.lean, 'card_holds'). Laid BY PROGRAM, IN A SANDBOX (cutbox-door.mjs). By AI agents, Wed Nov 11 2026. No macro, syntax, notation, axiom, sorry.
-/
import Derived.Test.YtheccnbamcdpmaaGreatDoorRows
import GoSem.ClaimSeven
namespace Go.Proofs.YtheccnbamcdpmaaGreatDoor
namespace Rows

/-- THE TIED CARD OF 'rivetlaw12.LoadRuns'. -/
def loadRunsCard : Claim7 := { stood := { row := loadRunsRow, standIns := [], harness := (true, "a232e620cdecfc4db832a0e8c05df61c1338c7cbb11f2747f54893b1f3a374f3"), looks := false }, kinds := [], alts := [], laidByText := true, laidKinds := [.data, .pinned], laidTests := true, laidLooks := .later }
def LoadRunsCardSaid : Prop := Claim7.holds Tryz.pinned (.plain (OpenSpec.ofChange loadRunsSpec)) loadRunsCard

/-- THE SECOND FORM's CARD OF 'rivetlaw12.LoadRuns'. -/
def loadRunsUptoCard : Claim7 := { stood := { row := loadRunsUptoRow, standIns := [], harness := (true, "a232e620cdecfc4db832a0e8c05df61c1338c7cbb11f2747f54893b1f3a374f3"), looks := false }, kinds := [], alts := [], laidByText := true, laidKinds := [.data, .pinned], laidTests := true, laidLooks := .later }
def LoadRunsUptoCardSaid : Prop := Claim7.holds Tryz.pinned (.plain (OpenSpec.upto loadRunsSpec)) loadRunsUptoCard
end Rows
end Go.Proofs.YtheccnbamcdpmaaGreatDoor
