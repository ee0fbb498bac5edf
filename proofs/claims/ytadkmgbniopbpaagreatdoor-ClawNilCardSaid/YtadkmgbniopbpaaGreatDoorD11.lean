/-
  The example comes out.
-/
import Derived.Test.YtadkmgbniopbpaaGreatDoorD10b
import Derived.Test.YtadkmgbniopbpaaGreatDoorPC1
set_option linter.unusedSimpArgs false
set_option linter.unusedVariables false
namespace Go.Proofs.YtadkmgbniopbpaaGreatDoor
open Go Go.RowKit Go.Bm
open Go.Am (Sc)
set_option maxRecDepth 100000

noncomputable def begin2V : Kn := pickV 16 vC1 beginV
theorem begin2V_ok : begin2V.ok Tryz.prog := pickV_ok kC1 beginV_ok
theorem kEx : (keepV 5 [([], .s (.b true))]).ok Tryz.prog := keepV_ok (k := 1000) (d := 60) mixed KT_ok XT_ok begin2V_ok (by kernel_rfl)
end Go.Proofs.YtadkmgbniopbpaaGreatDoor
