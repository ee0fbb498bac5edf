/-
  Results that are kept: Worth
-/
import Derived.Test.YtlpjiknnfjnmbaaGreatDoorNC
import Derived.Test.YtlpjiknnfjnmbaaGreatDoorD6
set_option linter.unusedSimpArgs false
set_option linter.unusedVariables false
namespace Go.Proofs.YtlpjiknnfjnmbaaGreatDoor
open Go Go.RowKit Go.Bm
open Go.Am (Sc)
set_option maxRecDepth 100000

noncomputable def l84 : List (List AV × AV) := [
  ([q4 5 0 0 0, q4 5 0 0 0, q4 2 0 0 0], q4 2 0 0 0)]
theorem k84 : (keepV 84 l84).ok Tryz.prog := keepV_ok (k := 1000) (d := 20) mixed KT_ok XT_ok baseV_ok (by kernel_rfl)
end Go.Proofs.YtlpjiknnfjnmbaaGreatDoor
