/-
  DeskSays: the last steps.
-/
import Derived.Test.YtcakgpfemeholaaGreatDoorD14
import Derived.Test.YtcakgpfemeholaaGreatDoorK0
import Derived.Test.YtcakgpfemeholaaGreatDoorK1
import Derived.Test.YtcakgpfemeholaaGreatDoorK2
set_option linter.unusedSimpArgs false
set_option linter.unusedVariables false
namespace Go.Proofs.YtcakgpfemeholaaGreatDoor
open Go Go.ChangeShapes Go.WideShapes Go.ChangeAt Go.RowKit Go.Bm
open Go.Am (Sc Sh ShArgs argAV okT noG)
set_option maxRecDepth 100000

theorem deskSays_holds : Rows.DeskSaysCardSaid :=
  Claim7.holds_tied_plain_at .later [] [.data, .data, .data, .data, .data, .widerDeep, .widerDeep, .widerDeep, .pinned] true (true, "2ab4e6f3ac40461ce629e74152fabfc5d79e99d198e0a28011d618e392497525") false
    deskSays_row (fun _ h => by cases h) cWf (fun _ h => by cases h) deskSays_row_tie rfl ⟨rfl, rfl⟩ cMain rfl
    (fun f fn hf hfn => by
      obtain rfl : f = 3 := Option.some.inj ((show Tryz.prog.funcNamed "jointure/jointurelaw22.DeskSays" = some 3 by kernel_rfl).symm.trans hf) |>.symm
      obtain rfl : fn = Tryz.f3 := (Option.some.inj (Tryz.func3.symm.trans hfn)).symm
      exact ⟨cLooks, fun j t ht => by
        rw [Tryz.params3] at ht
        have hm : t ∈ [3] := by simpa using Array.mem_of_getElem? ht
        have hall : ([3].all fun u => !Tryz.prog.wantsStandIn u) = true := by kernel_rfl
        exact (show Tryz.prog.wantsStandIn t = false by simpa using List.all_eq_true.1 hall t hm)⟩)
    cGoes
#print axioms deskSays_holds
end Go.Proofs.YtcakgpfemeholaaGreatDoor
