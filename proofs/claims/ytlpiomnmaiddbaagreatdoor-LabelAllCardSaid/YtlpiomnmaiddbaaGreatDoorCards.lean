/-
  DERIVED. GIVEN WITH THE SEED: THE CARDS: each row of YtlpiomnmaiddbaaGreatDoorRows.lean that lists a variable, with what it lists TIED to the program's text (the seventh form; the later family's looks); each row that meets fmt, with fmt's text TOLD by the authors' own Lean function (tested against real Go, not proved from fmt's source: count such statements apart). THE CARD IS WHAT COUNTS. Prove the row's statement (the work); the ties are given (YtlpiomnmaiddbaaGreatDoorTie.lean); close each card by the builder's one call (the guide's Derived/Test/ToyasCard.lean, 'card_holds'). Laid BY PROGRAM, IN A SANDBOX (cutbox-door.mjs). By AI agents, Wed Nov 11 2026. No macro, syntax, notation, axiom, sorry.
-/
import Derived.Test.YtlpiomnmaiddbaaGreatDoorRows
import GoSem.ClaimSeven
namespace Go.Proofs.YtlpiomnmaiddbaaGreatDoor
namespace Rows

/-- THE TIED CARD OF 'rivetlaw22.LabelAll'. -/
def labelAllCard : Claim7 := { stood := { row := labelAllRow, standIns := [], harness := (true, "0d09519944fcd20b748f6f2e5c1944a756e8946571c4a1aa3b2320988d84e695"), looks := false }, kinds := [], alts := [], laidByText := true, laidKinds := [.data, .pinned], laidTests := true, laidLooks := .later }
def LabelAllCardSaid : Prop := Claim7.holds Tryz.pinned (.plain (OpenSpec.ofChange labelAllSpec)) labelAllCard

/-- THE SECOND FORM's CARD OF 'rivetlaw22.LabelAll'. -/
def labelAllUptoCard : Claim7 := { stood := { row := labelAllUptoRow, standIns := [], harness := (true, "0d09519944fcd20b748f6f2e5c1944a756e8946571c4a1aa3b2320988d84e695"), looks := false }, kinds := [], alts := [], laidByText := true, laidKinds := [.data, .pinned], laidTests := true, laidLooks := .later }
def LabelAllUptoCardSaid : Prop := Claim7.holds Tryz.pinned (.plain (OpenSpec.upto labelAllSpec)) labelAllUptoCard
end Rows
end Go.Proofs.YtlpiomnmaiddbaaGreatDoor
