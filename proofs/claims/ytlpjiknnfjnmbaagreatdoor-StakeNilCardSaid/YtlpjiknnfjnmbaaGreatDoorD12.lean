/-
  The law's function, called with whatever.
-/
import Derived.Test.YtlpjiknnfjnmbaaGreatDoorD11
set_option linter.unusedSimpArgs false
set_option linter.unusedVariables false
namespace Go.Proofs.YtlpjiknnfjnmbaaGreatDoor
open Go Go.RowKit Go.Bm
open Go.Am (Sc)
set_option maxRecDepth 100000
noncomputable def goesV : Kn := pickV 32 (keepV 5 [([], .s (.b true))]) knownV
theorem goesV_ok : goesV.ok Tryz.prog := pickV_ok k5 knownV_ok
noncomputable def isTrue (q : Option (AV × Heap × Nat)) : Bool := match q with | some (.s (.b b), _, _) => b | _ => false
theorem run3 (t a b c x0 x1 x2 x3 : Int) : isTrue (yTab KT Tryz.prog XT goesV 1000 40 3 [.s (.i .u64 t), .s (.i .u8 a), .s (.i .u8 b), .s (.i .u8 c), .a [.s (.i .u64 x0), .s (.i .u64 x1), .s (.i .u64 x2), .s (.i .u64 x3)]] .e 0) = true := by kernel_rfl
end Go.Proofs.YtlpjiknnfjnmbaaGreatDoor
