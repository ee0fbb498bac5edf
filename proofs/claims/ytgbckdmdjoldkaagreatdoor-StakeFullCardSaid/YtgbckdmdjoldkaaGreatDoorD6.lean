/-
  Short names for values.
-/
import Derived.Test.YtgbckdmdjoldkaaGreatDoorD5
import Derived.Test.YtgbckdmdjoldkaaGreatDoorNC
set_option linter.unusedSimpArgs false
set_option linter.unusedVariables false
namespace Go.Proofs.YtgbckdmdjoldkaaGreatDoor
open Go Go.RowKit Go.Bm
open Go.Am (Sc)
set_option maxRecDepth 100000

@[reducible] def q4 (a b c d : Nat) : AV := .a [.s (.i .u64 (.ofNat a)), .s (.i .u64 (.ofNat b)), .s (.i .u64 (.ofNat c)), .s (.i .u64 (.ofNat d))]
@[reducible] def b1 (a : Nat) : AV := .s (.i .u8 (.ofNat a))
end Go.Proofs.YtgbckdmdjoldkaaGreatDoor
