/-
  Results that are kept.
-/
import Derived.Test.YtljhbbgfpccchaaGreatDoorD6
set_option linter.unusedSimpArgs false
set_option linter.unusedVariables false
namespace Go.Proofs.YtljhbbgfpccchaaGreatDoor
open Go Go.RowKit Go.Bm
open Go.Am (Sc)
set_option maxRecDepth 100000

/-- jointure/num.MulDiv (72282) -/
noncomputable def e9 : List (List AV × AV) := [
  ([q4 10 0 0 0, q4 5000 0 0 0, q4 10000 0 0 0, .s (.b false)], .t [q4 5 0 0 0, .s (.i .i64 (.ofNat 0))])]
theorem k9 : (keepV 27 e9).ok Tryz.prog := keepV_ok (k := 1000) (d := 30) mixed KT_ok XT_ok baseV_ok (by kernel_rfl)

end Go.Proofs.YtljhbbgfpccchaaGreatDoor
