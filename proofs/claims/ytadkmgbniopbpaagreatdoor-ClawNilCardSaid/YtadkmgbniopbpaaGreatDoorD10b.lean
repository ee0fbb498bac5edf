/-
  The example comes out.
-/
import Derived.Test.YtadkmgbniopbpaaGreatDoorD10
set_option linter.unusedSimpArgs false
set_option linter.unusedVariables false
namespace Go.Proofs.YtadkmgbniopbpaaGreatDoor
open Go Go.RowKit Go.Bm
open Go.Am (Sc)
set_option maxRecDepth 100000

noncomputable def beginV : Kn := pickV 8192 (litV 13 (.p 2 0) hBegin 12840) knownV
theorem beginV_ok : beginV.ok Tryz.prog := pickV_ok kBegin knownV_ok
end Go.Proofs.YtadkmgbniopbpaaGreatDoor
