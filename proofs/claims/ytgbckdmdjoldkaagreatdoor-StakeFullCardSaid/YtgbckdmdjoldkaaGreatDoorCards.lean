/-
  DERIVED. GIVEN WITH THE SEED: THE CARDS: each row of YtgbckdmdjoldkaaGreatDoorRows.lean that lists a variable, with what it lists TIED to the program's text (the seventh form; the later family's looks); each row that meets fmt, with fmt's text TOLD by the authors' own Lean function (tested against real Go, not proved from fmt's source: count such statements apart). THE CARD IS WHAT COUNTS. Prove the row's statement (the work); the ties are given (YtgbckdmdjoldkaaGreatDoorTie.lean); close each card by the builder's one call (the guide's Derived/Test/ToyasCard.lean, 'card_holds'). Laid BY PROGRAM, IN A SANDBOX (cutbox-door.mjs). By AI agents, Wed Nov 11 2026. No macro, syntax, notation, axiom, sorry.
-/
import Derived.Test.YtgbckdmdjoldkaaGreatDoorRows
import GoSem.ClaimSeven
namespace Go.Proofs.YtgbckdmdjoldkaaGreatDoor
namespace Rows

/-- THE TIED CARD OF 'jointurelaw15.StakeFull'. -/
def stakeFullCard : Claim7 := { stood := { row := stakeFullRow, standIns := [], harness := (true, "c50b4aa94af7342d0b327ef0ae2265d6478f29ebddef9a645d643cc5e290cc40"), looks := false }, kinds := [], alts := [], laidByText := true, laidKinds := [.data], laidTests := true, laidLooks := .later }
def StakeFullCardSaid : Prop := Claim7.holds Tryz.pinned (.plain (OpenSpec.ofChange stakeFullSpec)) stakeFullCard

/-- THE SECOND FORM's CARD OF 'jointurelaw15.StakeFull'. -/
def stakeFullUptoCard : Claim7 := { stood := { row := stakeFullUptoRow, standIns := [], harness := (true, "c50b4aa94af7342d0b327ef0ae2265d6478f29ebddef9a645d643cc5e290cc40"), looks := false }, kinds := [], alts := [], laidByText := true, laidKinds := [.data], laidTests := true, laidLooks := .later }
def StakeFullUptoCardSaid : Prop := Claim7.holds Tryz.pinned (.plain (OpenSpec.upto stakeFullSpec)) stakeFullUptoCard
end Rows
end Go.Proofs.YtgbckdmdjoldkaaGreatDoor
