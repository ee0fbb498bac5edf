/-
  Results that are kept.
-/
import Derived.Test.YtgbckdmdjoldkaaGreatDoorD6
set_option linter.unusedSimpArgs false
set_option linter.unusedVariables false
namespace Go.Proofs.YtgbckdmdjoldkaaGreatDoor
open Go Go.RowKit Go.Bm
open Go.Am (Sc)
set_option maxRecDepth 100000

/-- jointure/share.Worth (72130) -/
noncomputable def e9 : List (List AV × AV) := [
  ([q4 5 0 0 0, q4 5 0 0 0, q4 2 0 0 0], q4 2 0 0 0)]
theorem k9 : (keepV 86 e9).ok Tryz.prog := keepV_ok (k := 1000) (d := 30) mixed KT_ok XT_ok baseV_ok (by kernel_rfl)

end Go.Proofs.YtgbckdmdjoldkaaGreatDoor
