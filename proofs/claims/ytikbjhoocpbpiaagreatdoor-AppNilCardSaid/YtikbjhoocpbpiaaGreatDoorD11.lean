/-
  The example comes out.
-/
import Derived.Test.YtikbjhoocpbpiaaGreatDoorD9
set_option linter.unusedSimpArgs false
set_option linter.unusedVariables false
namespace Go.Proofs.YtikbjhoocpbpiaaGreatDoor
open Go Go.RowKit Go.Bm
open Go.Am (Sc)
set_option maxRecDepth 100000

theorem kEx : (keepV 4 [([], .s (.b true))]).ok Tryz.prog := keepV_ok (k := 1000) (d := 60) mixed KT_ok XT_ok knownV_ok (by kernel_rfl)
noncomputable def exV : Kn := pickV 16 (keepV 4 [([], .s (.b true))]) knownV
theorem exV_ok : exV.ok Tryz.prog := pickV_ok kEx knownV_ok
end Go.Proofs.YtikbjhoocpbpiaaGreatDoor
