/-
  DERIVED. GIVEN WITH THE SEED: THE CARDS: each row of YtljhbbgfpccchaaGreatDoorRows.lean that lists a variable, with what it lists TIED to the program's text (the seventh form; the later family's looks); each row that meets fmt, with fmt's text TOLD by the authors' own Lean function (tested against real Go, not proved from fmt's source: count such statements apart). THE CARD IS WHAT COUNTS. Prove the row's statement (the work); the ties are given (YtljhbbgfpccchaaGreatDoorTie.lean); close each card by the builder's one call (the guide's Derived/Test/ToyasCard.lean, 'card_holds'). Laid BY PROGRAM, IN A SANDBOX (cutbox-door.mjs). By AI agents, Wed Nov 11 2026. No macro, syntax, notation, axiom, sorry.
-/
import Derived.Test.YtljhbbgfpccchaaGreatDoorRows
import GoSem.ClaimSeven
namespace Go.Proofs.YtljhbbgfpccchaaGreatDoor
namespace Rows

/-- THE TIED CARD OF 'jointurelaw16.SlashNil'. -/
def slashNilCard : Claim7 := { stood := { row := slashNilRow, standIns := [], harness := (true, "1b6a8ee9e585160812eb933b7040f56889a37e07788b6035f05bec5512baa3ac"), looks := false }, kinds := [], alts := [], laidByText := true, laidKinds := [.data], laidTests := true, laidLooks := .later }
def SlashNilCardSaid : Prop := Claim7.holds Tryz.pinned (.plain (OpenSpec.ofChange slashNilSpec)) slashNilCard

/-- THE SECOND FORM's CARD OF 'jointurelaw16.SlashNil'. -/
def slashNilUptoCard : Claim7 := { stood := { row := slashNilUptoRow, standIns := [], harness := (true, "1b6a8ee9e585160812eb933b7040f56889a37e07788b6035f05bec5512baa3ac"), looks := false }, kinds := [], alts := [], laidByText := true, laidKinds := [.data], laidTests := true, laidLooks := .later }
def SlashNilUptoCardSaid : Prop := Claim7.holds Tryz.pinned (.plain (OpenSpec.upto slashNilSpec)) slashNilUptoCard
end Rows
end Go.Proofs.YtljhbbgfpccchaaGreatDoor
