/-
  Results that are kept.
-/
import Derived.Test.YtadkmgbniopbpaaGreatDoorD6
set_option linter.unusedSimpArgs false
set_option linter.unusedVariables false
namespace Go.Proofs.YtadkmgbniopbpaaGreatDoor
open Go Go.RowKit Go.Bm
open Go.Am (Sc)
set_option maxRecDepth 100000

/-- jointure/num.Bytes (713) -/
noncomputable def e6 : List (List AV × AV) := [
  ([q4 0 0 0 0], .s .sn)]
theorem k6 : (keepV 171 e6).ok Tryz.prog := keepV_ok (k := 1000) (d := 30) mixed KT_ok XT_ok baseV_ok (by kernel_rfl)

/-- jointure/coins.One (584) -/
noncomputable def e7 : List (List AV × AV) := [
  ([b1 1, q4 0 0 0 0], .s .sn),
  ([b1 3, q4 0 0 0 0], .s .sn),
  ([b1 4, q4 0 0 0 0], .s .sn),
  ([b1 5, q4 0 0 0 0], .s .sn),
  ([b1 6, q4 0 0 0 0], .s .sn),
  ([b1 7, q4 0 0 0 0], .s .sn),
  ([b1 0, q4 0 0 0 0], .s .sn),
  ([b1 2, q4 0 0 0 0], .s .sn)]
theorem k7 : (keepV 91 e7).ok Tryz.prog := keepV_ok (k := 1000) (d := 30) mixed KT_ok XT_ok baseV_ok (by kernel_rfl)

end Go.Proofs.YtadkmgbniopbpaaGreatDoor
