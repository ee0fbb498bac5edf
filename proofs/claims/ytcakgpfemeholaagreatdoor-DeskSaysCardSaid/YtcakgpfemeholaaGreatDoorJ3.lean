/-
  DeskSays: the last steps.
-/
import Derived.Test.YtcakgpfemeholaaGreatDoorRows
import Derived.JoinedOf
import Derived.KernelRfl
set_option linter.unusedSimpArgs false
set_option linter.unusedVariables false
namespace Go.Proofs.YtcakgpfemeholaaGreatDoor
open Go
set_option maxRecDepth 100000

theorem jNamed : (Rows.deskSaysRow.named == Tryz.pinned.checked.prog.varsNamed 3) = true := by kernel_rfl
end Go.Proofs.YtcakgpfemeholaaGreatDoor
