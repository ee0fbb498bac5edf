/-
  StakeFull returns true whatever its arguments are.
-/
import Derived.Test.YtgbckdmdjoldkaaGreatDoorE4
import Derived.Test.YtgbckdmdjoldkaaGreatDoorF00
import Derived.Test.YtgbckdmdjoldkaaGreatDoorF01
import Derived.Test.YtgbckdmdjoldkaaGreatDoorF02
import Derived.Test.YtgbckdmdjoldkaaGreatDoorF10
import Derived.Test.YtgbckdmdjoldkaaGreatDoorF11
import Derived.Test.YtgbckdmdjoldkaaGreatDoorF12
import Derived.Test.YtgbckdmdjoldkaaGreatDoorF20
import Derived.Test.YtgbckdmdjoldkaaGreatDoorF21
import Derived.Test.YtgbckdmdjoldkaaGreatDoorF22
import Derived.Test.YtgbckdmdjoldkaaGreatDoorF30
import Derived.Test.YtgbckdmdjoldkaaGreatDoorF31
import Derived.Test.YtgbckdmdjoldkaaGreatDoorF32
import Derived.Test.YtgbckdmdjoldkaaGreatDoorF40
import Derived.Test.YtgbckdmdjoldkaaGreatDoorF41
import Derived.Test.YtgbckdmdjoldkaaGreatDoorF42
import Derived.Test.YtgbckdmdjoldkaaGreatDoorF50
import Derived.Test.YtgbckdmdjoldkaaGreatDoorF51
import Derived.Test.YtgbckdmdjoldkaaGreatDoorF52
set_option linter.unusedSimpArgs false
set_option linter.unusedVariables false
namespace Go.Proofs.YtgbckdmdjoldkaaGreatDoor
open Go Go.RowKit Go.Bm
open Go.Am (Sc)
set_option maxRecDepth 100000

theorem law_comes {W : World} {a b c : Int} (a0 : 0 ≤ a) (a1 : a < 256) (b0 : 0 ≤ b) (b1 : b < 256) (c0 : 0 ≤ c) (c1 : c < 256) : Calls Tryz.prog 3 #[.int .u8 a, .int .u8 b, .int .u8 c] W fun e W' => e = .returned (.bool true) ∧ Below W.heap.size W W' := by
  obtain ⟨la, ha, ha'⟩ := in_any who_any a0 a1
  obtain ⟨lb, hb, hb'⟩ := in_any val_any b0 b1
  obtain ⟨lc, hc, hc'⟩ := in_any ap_any c0 c1
  simp only [List.mem_cons, List.not_mem_nil, or_false] at ha hb hc
  rcases ha with rfl | rfl | rfl | rfl | rfl | rfl
  · rcases hb with rfl | rfl | rfl
    · rcases hc with rfl | rfl
      · exact lane_true R00.V0_ok R00.run0 ha' hb' hc'
      · exact lane_true R00.V1_ok R00.run1 ha' hb' hc'
    · rcases hc with rfl | rfl
      · exact lane_true R01.V0_ok R01.run0 ha' hb' hc'
      · exact lane_true R01.V1_ok R01.run1 ha' hb' hc'
    · rcases hc with rfl | rfl
      · exact lane_true R02.V0_ok R02.run0 ha' hb' hc'
      · exact lane_true R02.V1_ok R02.run1 ha' hb' hc'
  · rcases hb with rfl | rfl | rfl
    · rcases hc with rfl | rfl
      · exact lane_true R10.V0_ok R10.run0 ha' hb' hc'
      · exact lane_true R10.V1_ok R10.run1 ha' hb' hc'
    · rcases hc with rfl | rfl
      · exact lane_true R11.V0_ok R11.run0 ha' hb' hc'
      · exact lane_true R11.V1_ok R11.run1 ha' hb' hc'
    · rcases hc with rfl | rfl
      · exact lane_true R12.V0_ok R12.run0 ha' hb' hc'
      · exact lane_true R12.V1_ok R12.run1 ha' hb' hc'
  · rcases hb with rfl | rfl | rfl
    · rcases hc with rfl | rfl
      · exact lane_true R20.V0_ok R20.run0 ha' hb' hc'
      · exact lane_true R20.V1_ok R20.run1 ha' hb' hc'
    · rcases hc with rfl | rfl
      · exact lane_true R21.V0_ok R21.run0 ha' hb' hc'
      · exact lane_true R21.V1_ok R21.run1 ha' hb' hc'
    · rcases hc with rfl | rfl
      · exact lane_true R22.V0_ok R22.run0 ha' hb' hc'
      · exact lane_true R22.V1_ok R22.run1 ha' hb' hc'
  · rcases hb with rfl | rfl | rfl
    · rcases hc with rfl | rfl
      · exact lane_true R30.V0_ok R30.run0 ha' hb' hc'
      · exact lane_true R30.V1_ok R30.run1 ha' hb' hc'
    · rcases hc with rfl | rfl
      · exact lane_true R31.V0_ok R31.run0 ha' hb' hc'
      · exact lane_true R31.V1_ok R31.run1 ha' hb' hc'
    · rcases hc with rfl | rfl
      · exact lane_true R32.V0_ok R32.run0 ha' hb' hc'
      · exact lane_true R32.V1_ok R32.run1 ha' hb' hc'
  · rcases hb with rfl | rfl | rfl
    · rcases hc with rfl | rfl
      · exact lane_true R40.V0_ok R40.run0 ha' hb' hc'
      · exact lane_true R40.V1_ok R40.run1 ha' hb' hc'
    · rcases hc with rfl | rfl
      · exact lane_true R41.V0_ok R41.run0 ha' hb' hc'
      · exact lane_true R41.V1_ok R41.run1 ha' hb' hc'
    · rcases hc with rfl | rfl
      · exact lane_true R42.V0_ok R42.run0 ha' hb' hc'
      · exact lane_true R42.V1_ok R42.run1 ha' hb' hc'
  · rcases hb with rfl | rfl | rfl
    · rcases hc with rfl | rfl
      · exact lane_true R50.V0_ok R50.run0 ha' hb' hc'
      · exact lane_true R50.V1_ok R50.run1 ha' hb' hc'
    · rcases hc with rfl | rfl
      · exact lane_true R51.V0_ok R51.run0 ha' hb' hc'
      · exact lane_true R51.V1_ok R51.run1 ha' hb' hc'
    · rcases hc with rfl | rfl
      · exact lane_true R52.V0_ok R52.run0 ha' hb' hc'
      · exact lane_true R52.V1_ok R52.run1 ha' hb' hc'
end Go.Proofs.YtgbckdmdjoldkaaGreatDoor
