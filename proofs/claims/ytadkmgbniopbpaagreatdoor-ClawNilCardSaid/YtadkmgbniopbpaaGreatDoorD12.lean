/-
  The law's function, called with whatever.
-/
import Derived.Test.YtadkmgbniopbpaaGreatDoorD11
set_option linter.unusedSimpArgs false
set_option linter.unusedVariables false
namespace Go.Proofs.YtadkmgbniopbpaaGreatDoor
open Go Go.RowKit Go.Bm
open Go.Am (Sc)
set_option maxRecDepth 100000

noncomputable def exV : Kn := pickV 32 (keepV 5 [([], .s (.b true))]) knownV
theorem exV_ok : exV.ok Tryz.prog := pickV_ok kEx knownV_ok
noncomputable def isTrue (q : Option (AV × Heap × Nat)) : Bool := match q with | some (.s (.b b), _, _) => b | _ => false
theorem runLaw (y0 y1 y2 : Int) : isTrue (yTab KT Tryz.prog XT exV 1000 40 3 [.s (.i .u64 y0), .s (.i .u8 y1), .s (.i .u8 y2)] .e 0) = true := by kernel_rfl
end Go.Proofs.YtadkmgbniopbpaaGreatDoor
