/-
  DeskSays: the last steps.
-/
import Derived.Test.YtcakgpfemeholaaGreatDoorD13
import Derived.Test.YtcakgpfemeholaaGreatDoorJ0
import Derived.Test.YtcakgpfemeholaaGreatDoorJ1
import Derived.Test.YtcakgpfemeholaaGreatDoorJ2
import Derived.Test.YtcakgpfemeholaaGreatDoorJ3
set_option linter.unusedSimpArgs false
set_option linter.unusedVariables false
namespace Go.Proofs.YtcakgpfemeholaaGreatDoor
open Go Go.ChangeShapes Go.WideShapes Go.ChangeAt Go.RowKit Go.Bm
open Go.Am (Sc Sh ShArgs argAV okT noG)
set_option maxRecDepth 100000

theorem closed : joinedFacts Tryz.pinned.checked.prog 3 Tryz.f3 Rows.deskSaysSpec Rows.deskSaysRow = true := by
  unfold joinedFacts
  rw [jInPlace, jUnfollowed, jRecurses, jNamed]
  kernel_rfl

theorem deskSays_row : Rows.DeskSaysSaid :=
  OpenClaim.holds_of_wide 3 Tryz.f3 rfl rfl rfl rfl rfl rfl rfl ⟨rfl, rfl, rfl, rfl, rfl⟩ rfl rfl rfl rfl rfl (by kernel_rfl) Tryz.func3 closed
    (of_decide_eq_true (by kernel_rfl)) (by unfold Func.isWrapper; rw [if_neg (of_decide_eq_false (by kernel_rfl))]; exact ⟨rfl, rfl⟩)
    (fun os started H enc _ => lifted os started H enc)

end Go.Proofs.YtcakgpfemeholaaGreatDoor
