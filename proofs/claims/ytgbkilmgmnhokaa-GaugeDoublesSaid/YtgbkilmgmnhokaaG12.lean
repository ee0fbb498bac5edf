/-
  THE WALKS: a number's digits.
-/
import Derived.Test.YtgbkilmgmnhokaaG11
set_option linter.unusedSimpArgs false
set_option linter.unusedVariables false
namespace Go.Am
open Go Go.Proofs Go.Fl

theorem digits32 (F : Tab) (a0 a1 a2 a3 : Nat) : xBody Try.prog F (fun _ _ => false) (fun _ => true) 1000 32 [.a [.s (.i .u64 a0), .s (.i .u64 a1), .s (.i .u64 a2), .s (.i .u64 a3)]] [] [] = some (.l 16 (digsAV a0 a1 a2 a3), [], []) := by kernel_rfl
end Go.Am
