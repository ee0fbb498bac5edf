/-
  DERIVED. GIVEN WITH THE SEED: THE CARDS: each row of YtikbjhoocpbpiaaGreatDoorRows.lean that lists a variable, with what it lists TIED to the program's text (the seventh form; the later family's looks); each row that meets fmt, with fmt's text TOLD by the authors' own Lean function (tested against real Go, not proved from fmt's source: count such statements apart). THE CARD IS WHAT COUNTS. Prove the row's statement (the work); the ties are given (YtikbjhoocpbpiaaGreatDoorTie.lean); close each card by the builder's one call (the guide's Derived/Test/ToyasCard.lean, 'card_holds'). Laid BY PROGRAM, IN A SANDBOX (cutbox-door.mjs). By AI agents, Wed Nov 11 2026. No macro, syntax, notation, axiom, sorry.
-/
import Derived.Test.YtikbjhoocpbpiaaGreatDoorRows
import GoSem.ClaimSeven
namespace Go.Proofs.YtikbjhoocpbpiaaGreatDoor
namespace Rows

/-- THE TIED CARD OF 'jointurelaw19.AppNil'. -/
def appNilCard : Claim7 := { stood := { row := appNilRow, standIns := [], harness := (true, "05d745acf38f67019fbefab162b0d4b44333c5c9c7535a5f0a2c3924d474b3f9"), looks := false }, kinds := [], alts := [], laidByText := true, laidKinds := [.data], laidTests := true, laidLooks := .later }
def AppNilCardSaid : Prop := Claim7.holds Tryz.pinned (.plain (OpenSpec.ofChange appNilSpec)) appNilCard

/-- THE SECOND FORM's CARD OF 'jointurelaw19.AppNil'. -/
def appNilUptoCard : Claim7 := { stood := { row := appNilUptoRow, standIns := [], harness := (true, "05d745acf38f67019fbefab162b0d4b44333c5c9c7535a5f0a2c3924d474b3f9"), looks := false }, kinds := [], alts := [], laidByText := true, laidKinds := [.data], laidTests := true, laidLooks := .later }
def AppNilUptoCardSaid : Prop := Claim7.holds Tryz.pinned (.plain (OpenSpec.upto appNilSpec)) appNilUptoCard
end Rows
end Go.Proofs.YtikbjhoocpbpiaaGreatDoor
