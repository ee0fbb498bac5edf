/-
  Results that are kept.
-/
import Derived.Test.YtgbckdmdjoldkaaGreatDoorD6
set_option linter.unusedSimpArgs false
set_option linter.unusedVariables false
namespace Go.Proofs.YtgbckdmdjoldkaaGreatDoor
open Go Go.RowKit Go.Bm
open Go.Am (Sc)
set_option maxRecDepth 100000

/-- jointure/num.Bytes (24606) -/
noncomputable def e14 : List (List AV × RowLit) := [
  ([q4 1 0 0 0], ⟨5, 0, 1, 1, 1, false, [b1 1]⟩),
  ([q4 100 0 0 0], ⟨5, 0, 1, 1, 1, false, [b1 100]⟩),
  ([q4 160 0 0 0], ⟨5, 0, 1, 1, 1, false, [b1 160]⟩),
  ([q4 2 0 0 0], ⟨5, 0, 1, 1, 1, false, [b1 2]⟩),
  ([q4 240 0 0 0], ⟨5, 0, 1, 1, 1, false, [b1 240]⟩),
  ([q4 25 0 0 0], ⟨5, 0, 1, 1, 1, false, [b1 25]⟩),
  ([q4 3 0 0 0], ⟨5, 0, 1, 1, 1, false, [b1 3]⟩),
  ([q4 4 0 0 0], ⟨5, 0, 1, 1, 1, false, [b1 4]⟩),
  ([q4 5 0 0 0], ⟨5, 0, 1, 1, 1, false, [b1 5]⟩),
  ([q4 50 0 0 0], ⟨5, 0, 1, 1, 1, false, [b1 50]⟩),
  ([q4 80 0 0 0], ⟨5, 0, 1, 1, 1, false, [b1 80]⟩),
  ([q4 95 0 0 0], ⟨5, 0, 1, 1, 1, false, [b1 95]⟩),
  ([q4 96 0 0 0], ⟨5, 0, 1, 1, 1, false, [b1 96]⟩),
  ([q4 97 0 0 0], ⟨5, 0, 1, 1, 1, false, [b1 97]⟩),
  ([q4 98 0 0 0], ⟨5, 0, 1, 1, 1, false, [b1 98]⟩),
  ([q4 99 0 0 0], ⟨5, 0, 1, 1, 1, false, [b1 99]⟩),
  ([q4 1000 0 0 0], ⟨5, 0, 1, 2, 2, false, [b1 3, b1 232]⟩),
  ([q4 12000 0 0 0], ⟨5, 0, 1, 2, 2, false, [b1 46, b1 224]⟩),
  ([q4 15000 0 0 0], ⟨5, 0, 1, 2, 2, false, [b1 58, b1 152]⟩),
  ([q4 18000 0 0 0], ⟨5, 0, 1, 2, 2, false, [b1 70, b1 80]⟩),
  ([q4 2900 0 0 0], ⟨5, 0, 1, 2, 2, false, [b1 11, b1 84]⟩),
  ([q4 2901 0 0 0], ⟨5, 0, 1, 2, 2, false, [b1 11, b1 85]⟩),
  ([q4 2902 0 0 0], ⟨5, 0, 1, 2, 2, false, [b1 11, b1 86]⟩),
  ([q4 2903 0 0 0], ⟨5, 0, 1, 2, 2, false, [b1 11, b1 87]⟩),
  ([q4 2904 0 0 0], ⟨5, 0, 1, 2, 2, false, [b1 11, b1 88]⟩),
  ([q4 2995 0 0 0], ⟨5, 0, 1, 2, 2, false, [b1 11, b1 179]⟩),
  ([q4 2997 0 0 0], ⟨5, 0, 1, 2, 2, false, [b1 11, b1 181]⟩),
  ([q4 3000 0 0 0], ⟨5, 0, 1, 2, 2, false, [b1 11, b1 184]⟩),
  ([q4 320 0 0 0], ⟨5, 0, 1, 2, 2, false, [b1 1, b1 64]⟩),
  ([q4 400 0 0 0], ⟨5, 0, 1, 2, 2, false, [b1 1, b1 144]⟩),
  ([q4 480 0 0 0], ⟨5, 0, 1, 2, 2, false, [b1 1, b1 224]⟩),
  ([q4 500 0 0 0], ⟨5, 0, 1, 2, 2, false, [b1 1, b1 244]⟩),
  ([q4 6000 0 0 0], ⟨5, 0, 1, 2, 2, false, [b1 23, b1 112]⟩),
  ([q4 9000 0 0 0], ⟨5, 0, 1, 2, 2, false, [b1 35, b1 40]⟩)]
theorem k14 : (keepR 145 e14).ok Tryz.prog := keepR_ok (k := 1000) (d := 30) mixed KT_ok XT_ok baseV_ok (by kernel_rfl)

/-- jointure/coins.One (1540) -/
noncomputable def e15 : List (List AV × RowLit) := [
  ([b1 0, q4 1 0 0 0], ⟨58, 0, 5, 1, 1, true, [b1 0, .s (.i .u64 (.ofNat 1)), .s (.i .u64 (.ofNat 0)), .s (.i .u64 (.ofNat 0)), .s (.i .u64 (.ofNat 0))]⟩),
  ([b1 0, q4 100 0 0 0], ⟨58, 0, 5, 1, 1, true, [b1 0, .s (.i .u64 (.ofNat 100)), .s (.i .u64 (.ofNat 0)), .s (.i .u64 (.ofNat 0)), .s (.i .u64 (.ofNat 0))]⟩),
  ([b1 0, q4 1000 0 0 0], ⟨58, 0, 5, 1, 1, true, [b1 0, .s (.i .u64 (.ofNat 1000)), .s (.i .u64 (.ofNat 0)), .s (.i .u64 (.ofNat 0)), .s (.i .u64 (.ofNat 0))]⟩),
  ([b1 0, q4 12000 0 0 0], ⟨58, 0, 5, 1, 1, true, [b1 0, .s (.i .u64 (.ofNat 12000)), .s (.i .u64 (.ofNat 0)), .s (.i .u64 (.ofNat 0)), .s (.i .u64 (.ofNat 0))]⟩),
  ([b1 0, q4 15000 0 0 0], ⟨58, 0, 5, 1, 1, true, [b1 0, .s (.i .u64 (.ofNat 15000)), .s (.i .u64 (.ofNat 0)), .s (.i .u64 (.ofNat 0)), .s (.i .u64 (.ofNat 0))]⟩),
  ([b1 0, q4 18000 0 0 0], ⟨58, 0, 5, 1, 1, true, [b1 0, .s (.i .u64 (.ofNat 18000)), .s (.i .u64 (.ofNat 0)), .s (.i .u64 (.ofNat 0)), .s (.i .u64 (.ofNat 0))]⟩),
  ([b1 0, q4 2 0 0 0], ⟨58, 0, 5, 1, 1, true, [b1 0, .s (.i .u64 (.ofNat 2)), .s (.i .u64 (.ofNat 0)), .s (.i .u64 (.ofNat 0)), .s (.i .u64 (.ofNat 0))]⟩),
  ([b1 0, q4 3000 0 0 0], ⟨58, 0, 5, 1, 1, true, [b1 0, .s (.i .u64 (.ofNat 3000)), .s (.i .u64 (.ofNat 0)), .s (.i .u64 (.ofNat 0)), .s (.i .u64 (.ofNat 0))]⟩),
  ([b1 0, q4 5 0 0 0], ⟨58, 0, 5, 1, 1, true, [b1 0, .s (.i .u64 (.ofNat 5)), .s (.i .u64 (.ofNat 0)), .s (.i .u64 (.ofNat 0)), .s (.i .u64 (.ofNat 0))]⟩),
  ([b1 0, q4 500 0 0 0], ⟨58, 0, 5, 1, 1, true, [b1 0, .s (.i .u64 (.ofNat 500)), .s (.i .u64 (.ofNat 0)), .s (.i .u64 (.ofNat 0)), .s (.i .u64 (.ofNat 0))]⟩),
  ([b1 0, q4 6000 0 0 0], ⟨58, 0, 5, 1, 1, true, [b1 0, .s (.i .u64 (.ofNat 6000)), .s (.i .u64 (.ofNat 0)), .s (.i .u64 (.ofNat 0)), .s (.i .u64 (.ofNat 0))]⟩),
  ([b1 0, q4 9000 0 0 0], ⟨58, 0, 5, 1, 1, true, [b1 0, .s (.i .u64 (.ofNat 9000)), .s (.i .u64 (.ofNat 0)), .s (.i .u64 (.ofNat 0)), .s (.i .u64 (.ofNat 0))]⟩),
  ([b1 2, q4 160 0 0 0], ⟨58, 0, 5, 1, 1, true, [b1 2, .s (.i .u64 (.ofNat 160)), .s (.i .u64 (.ofNat 0)), .s (.i .u64 (.ofNat 0)), .s (.i .u64 (.ofNat 0))]⟩),
  ([b1 2, q4 240 0 0 0], ⟨58, 0, 5, 1, 1, true, [b1 2, .s (.i .u64 (.ofNat 240)), .s (.i .u64 (.ofNat 0)), .s (.i .u64 (.ofNat 0)), .s (.i .u64 (.ofNat 0))]⟩),
  ([b1 2, q4 25 0 0 0], ⟨58, 0, 5, 1, 1, true, [b1 2, .s (.i .u64 (.ofNat 25)), .s (.i .u64 (.ofNat 0)), .s (.i .u64 (.ofNat 0)), .s (.i .u64 (.ofNat 0))]⟩),
  ([b1 2, q4 320 0 0 0], ⟨58, 0, 5, 1, 1, true, [b1 2, .s (.i .u64 (.ofNat 320)), .s (.i .u64 (.ofNat 0)), .s (.i .u64 (.ofNat 0)), .s (.i .u64 (.ofNat 0))]⟩),
  ([b1 2, q4 400 0 0 0], ⟨58, 0, 5, 1, 1, true, [b1 2, .s (.i .u64 (.ofNat 400)), .s (.i .u64 (.ofNat 0)), .s (.i .u64 (.ofNat 0)), .s (.i .u64 (.ofNat 0))]⟩),
  ([b1 2, q4 480 0 0 0], ⟨58, 0, 5, 1, 1, true, [b1 2, .s (.i .u64 (.ofNat 480)), .s (.i .u64 (.ofNat 0)), .s (.i .u64 (.ofNat 0)), .s (.i .u64 (.ofNat 0))]⟩),
  ([b1 2, q4 50 0 0 0], ⟨58, 0, 5, 1, 1, true, [b1 2, .s (.i .u64 (.ofNat 50)), .s (.i .u64 (.ofNat 0)), .s (.i .u64 (.ofNat 0)), .s (.i .u64 (.ofNat 0))]⟩),
  ([b1 2, q4 80 0 0 0], ⟨58, 0, 5, 1, 1, true, [b1 2, .s (.i .u64 (.ofNat 80)), .s (.i .u64 (.ofNat 0)), .s (.i .u64 (.ofNat 0)), .s (.i .u64 (.ofNat 0))]⟩)]
theorem k15 : (keepR 83 e15).ok Tryz.prog := keepR_ok (k := 1000) (d := 30) mixed KT_ok XT_ok baseV_ok (by kernel_rfl)

/-- jointure/line.key (3005) -/
noncomputable def e16 : List (List AV × RowLit) := [
  ([b1 101, .s (.i .u64 (.ofNat 1000)), .s (.i .u64 (.ofNat 1))], ⟨5, 0, 1, 18, 18, false, [b1 119, b1 101, b1 0, b1 0, b1 0, b1 0, b1 0, b1 0, b1 3, b1 232, b1 0, b1 0, b1 0, b1 0, b1 0, b1 0, b1 0, b1 1]⟩),
  ([b1 101, .s (.i .u64 (.ofNat 1000)), .s (.i .u64 (.ofNat 2))], ⟨5, 0, 1, 18, 18, false, [b1 119, b1 101, b1 0, b1 0, b1 0, b1 0, b1 0, b1 0, b1 3, b1 232, b1 0, b1 0, b1 0, b1 0, b1 0, b1 0, b1 0, b1 2]⟩),
  ([b1 101, .s (.i .u64 (.ofNat 1000)), .s (.i .u64 (.ofNat 3))], ⟨5, 0, 1, 18, 18, false, [b1 119, b1 101, b1 0, b1 0, b1 0, b1 0, b1 0, b1 0, b1 3, b1 232, b1 0, b1 0, b1 0, b1 0, b1 0, b1 0, b1 0, b1 3]⟩),
  ([b1 101, .s (.i .u64 (.ofNat 1000)), .s (.i .u64 (.ofNat 4))], ⟨5, 0, 1, 18, 18, false, [b1 119, b1 101, b1 0, b1 0, b1 0, b1 0, b1 0, b1 0, b1 3, b1 232, b1 0, b1 0, b1 0, b1 0, b1 0, b1 0, b1 0, b1 4]⟩),
  ([b1 101, .s (.i .u64 (.ofNat 2000)), .s (.i .u64 (.ofNat 5))], ⟨5, 0, 1, 18, 18, false, [b1 119, b1 101, b1 0, b1 0, b1 0, b1 0, b1 0, b1 0, b1 7, b1 208, b1 0, b1 0, b1 0, b1 0, b1 0, b1 0, b1 0, b1 5]⟩)]
theorem k16 : (keepR 141 e16).ok Tryz.prog := keepR_ok (k := 1000) (d := 30) mixed KT_ok XT_ok baseV_ok (by kernel_rfl)

end Go.Proofs.YtgbckdmdjoldkaaGreatDoor
