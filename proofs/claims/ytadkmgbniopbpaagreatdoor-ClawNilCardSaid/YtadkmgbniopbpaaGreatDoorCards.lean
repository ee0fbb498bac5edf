/-
  DERIVED. GIVEN WITH THE SEED: THE CARDS: each row of YtadkmgbniopbpaaGreatDoorRows.lean that lists a variable, with what it lists TIED to the program's text (the seventh form; the later family's looks); each row that meets fmt, with fmt's text TOLD by the authors' own Lean function (tested against real Go, not proved from fmt's source: count such statements apart). THE CARD IS WHAT COUNTS. Prove the row's statement (the work); the ties are given (YtadkmgbniopbpaaGreatDoorTie.lean); close each card by the builder's one call (the guide's Derived/Test/ToyasCard.lean, 'card_holds'). Laid BY PROGRAM, IN A SANDBOX (cutbox-door.mjs). By AI agents, Wed Nov 11 2026. No macro, syntax, notation, axiom, sorry.
-/
import Derived.Test.YtadkmgbniopbpaaGreatDoorRows
import GoSem.ClaimSeven
namespace Go.Proofs.YtadkmgbniopbpaaGreatDoor
namespace Rows

/-- THE TIED CARD OF 'jointurelaw17.ClawNil'. -/
def clawNilCard : Claim7 := { stood := { row := clawNilRow, standIns := [], harness := (true, "3a4b4c97404aa0d8c4c2cb0bcee2f43e7b5472f3f8e3100f9158f8f44351f5d6"), looks := false }, kinds := [], alts := [], laidByText := true, laidKinds := [.data], laidTests := true, laidLooks := .later }
def ClawNilCardSaid : Prop := Claim7.holds Tryz.pinned (.plain (OpenSpec.ofChange clawNilSpec)) clawNilCard

/-- THE SECOND FORM's CARD OF 'jointurelaw17.ClawNil'. -/
def clawNilUptoCard : Claim7 := { stood := { row := clawNilUptoRow, standIns := [], harness := (true, "3a4b4c97404aa0d8c4c2cb0bcee2f43e7b5472f3f8e3100f9158f8f44351f5d6"), looks := false }, kinds := [], alts := [], laidByText := true, laidKinds := [.data], laidTests := true, laidLooks := .later }
def ClawNilUptoCardSaid : Prop := Claim7.holds Tryz.pinned (.plain (OpenSpec.upto clawNilSpec)) clawNilUptoCard
end Rows
end Go.Proofs.YtadkmgbniopbpaaGreatDoor
