/-
  The example comes out.
-/
import Derived.Test.YtgbckdmdjoldkaaGreatDoorD10
set_option linter.unusedSimpArgs false
set_option linter.unusedVariables false
namespace Go.Proofs.YtgbckdmdjoldkaaGreatDoor
open Go Go.RowKit Go.Bm
open Go.Am (Sc)
set_option maxRecDepth 100000

noncomputable def beginV : Kn := pickV 32 (litV 5 (.p 18 0) hBegin 12856) knownV
theorem beginV_ok : beginV.ok Tryz.prog := pickV_ok kBegin knownV_ok
theorem kEx : (keepV 4 [([], .s (.b true))]).ok Tryz.prog := keepV_ok (k := 1000) (d := 60) mixed KT_ok XT_ok beginV_ok (by kernel_rfl)
end Go.Proofs.YtgbckdmdjoldkaaGreatDoor
