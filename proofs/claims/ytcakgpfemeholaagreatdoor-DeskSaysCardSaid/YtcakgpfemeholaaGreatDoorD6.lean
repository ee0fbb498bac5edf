/-
  Short names for values.
-/
import Derived.Test.YtcakgpfemeholaaGreatDoorD5
import Derived.Test.YtcakgpfemeholaaGreatDoorNC
set_option linter.unusedSimpArgs false
set_option linter.unusedVariables false
namespace Go.Proofs.YtcakgpfemeholaaGreatDoor
open Go Go.RowKit Go.Bm
open Go.Am (Sc)
set_option maxRecDepth 100000

@[reducible] def q4 (a b c d : Nat) : AV := .a [.s (.i .u64 (.ofNat a)), .s (.i .u64 (.ofNat b)), .s (.i .u64 (.ofNat c)), .s (.i .u64 (.ofNat d))]
@[reducible] def b1 (a : Nat) : AV := .s (.i .u8 (.ofNat a))
end Go.Proofs.YtcakgpfemeholaaGreatDoor
