/-
  DeskSays: the last steps.
-/
import Derived.Test.YtcakgpfemeholaaGreatDoorRows
import Derived.SevenTiedAt
import Derived.KernelRfl
set_option linter.unusedSimpArgs false
set_option linter.unusedVariables false
namespace Go.Proofs.YtcakgpfemeholaaGreatDoor
open Go
set_option maxRecDepth 100000

theorem cMain : Tryz.pinned.checked.prog.mainIs = some (true, "2ab4e6f3ac40461ce629e74152fabfc5d79e99d198e0a28011d618e392497525".toList) := by kernel_rfl
theorem cWf : Rows.deskSaysRow.wfByText (OpenSpec.ofChange Rows.deskSaysSpec) = true := by kernel_rfl
end Go.Proofs.YtcakgpfemeholaaGreatDoor
