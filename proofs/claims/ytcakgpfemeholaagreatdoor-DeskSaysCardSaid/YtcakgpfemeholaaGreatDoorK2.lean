/-
  DeskSays: the last steps.
-/
import Derived.Test.YtcakgpfemeholaaGreatDoorRows
import Derived.SevenTiedAt
import Derived.KernelRfl
set_option linter.unusedSimpArgs false
set_option linter.unusedVariables false
namespace Go.Proofs.YtcakgpfemeholaaGreatDoor
open Go
set_option maxRecDepth 100000

theorem cGoes : false = Rows.deskSaysRow.goesBy Tryz.pinned.checked.prog := by kernel_rfl
end Go.Proofs.YtcakgpfemeholaaGreatDoor
