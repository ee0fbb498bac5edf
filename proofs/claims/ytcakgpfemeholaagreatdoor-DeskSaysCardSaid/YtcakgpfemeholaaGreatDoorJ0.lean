/-
  DeskSays: the last steps.
-/
import Derived.Test.YtcakgpfemeholaaGreatDoorRows
import Derived.JoinedOf
import Derived.KernelRfl
set_option linter.unusedSimpArgs false
set_option linter.unusedVariables false
namespace Go.Proofs.YtcakgpfemeholaaGreatDoor
open Go
set_option maxRecDepth 100000

theorem jInPlace : (Rows.deskSaysRow.inPlace == Tryz.pinned.checked.prog.inPlace 3) = true := by kernel_rfl
end Go.Proofs.YtcakgpfemeholaaGreatDoor
