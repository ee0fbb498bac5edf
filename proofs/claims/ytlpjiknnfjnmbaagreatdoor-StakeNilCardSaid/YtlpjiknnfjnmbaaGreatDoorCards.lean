/-
  DERIVED. GIVEN WITH THE SEED: THE CARDS: each row of YtlpjiknnfjnmbaaGreatDoorRows.lean that lists a variable, with what it lists TIED to the program's text (the seventh form; the later family's looks); each row that meets fmt, with fmt's text TOLD by the authors' own Lean function (tested against real Go, not proved from fmt's source: count such statements apart). THE CARD IS WHAT COUNTS. Prove the row's statement (the work); the ties are given (YtlpjiknnfjnmbaaGreatDoorTie.lean); close each card by the builder's one call (the guide's Derived/Test/ToyasCard.lean, 'card_holds'). Laid BY PROGRAM, IN A SANDBOX (cutbox-door.mjs). By AI agents, Wed Nov 11 2026. No macro, syntax, notation, axiom, sorry.
-/
import Derived.Test.YtlpjiknnfjnmbaaGreatDoorRows
import GoSem.ClaimSeven
namespace Go.Proofs.YtlpjiknnfjnmbaaGreatDoor
namespace Rows

/-- THE TIED CARD OF 'jointurelaw15.StakeNil'. -/
def stakeNilCard : Claim7 := { stood := { row := stakeNilRow, standIns := [], harness := (true, "ce44970f7c6742833435beb103c0dbdf2d8dbfdc0c43760648afec0811988daf"), looks := false }, kinds := [], alts := [], laidByText := true, laidKinds := [.data], laidTests := true, laidLooks := .later }
def StakeNilCardSaid : Prop := Claim7.holds Tryz.pinned (.plain (OpenSpec.ofChange stakeNilSpec)) stakeNilCard

/-- THE SECOND FORM's CARD OF 'jointurelaw15.StakeNil'. -/
def stakeNilUptoCard : Claim7 := { stood := { row := stakeNilUptoRow, standIns := [], harness := (true, "ce44970f7c6742833435beb103c0dbdf2d8dbfdc0c43760648afec0811988daf"), looks := false }, kinds := [], alts := [], laidByText := true, laidKinds := [.data], laidTests := true, laidLooks := .later }
def StakeNilUptoCardSaid : Prop := Claim7.holds Tryz.pinned (.plain (OpenSpec.upto stakeNilSpec)) stakeNilUptoCard
end Rows
end Go.Proofs.YtlpjiknnfjnmbaaGreatDoor
