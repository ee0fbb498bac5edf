/-
  goes() is true.
-/
import Derived.Test.YtlpjiknnfjnmbaaGreatDoorD10
set_option linter.unusedSimpArgs false
set_option linter.unusedVariables false
namespace Go.Proofs.YtlpjiknnfjnmbaaGreatDoor
open Go Go.RowKit Go.Bm
open Go.Am (Sc)
set_option maxRecDepth 100000
noncomputable def beginV : Kn := pickV 262144 (litV 18 (.p 2 0) h18 13360) knownV
theorem beginV_ok : beginV.ok Tryz.prog := pickV_ok k18 knownV_ok
theorem k5 : (keepV 5 [([], .s (.b true))]).ok Tryz.prog := keepV_ok (k := 1000) (d := 60) mixed KT_ok XT_ok beginV_ok (by kernel_rfl)
end Go.Proofs.YtlpjiknnfjnmbaaGreatDoor
