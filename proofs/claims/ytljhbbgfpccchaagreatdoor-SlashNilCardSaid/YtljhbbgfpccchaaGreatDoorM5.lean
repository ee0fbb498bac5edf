/-
  Results that are kept.
-/
import Derived.Test.YtljhbbgfpccchaaGreatDoorD6
set_option linter.unusedSimpArgs false
set_option linter.unusedVariables false
namespace Go.Proofs.YtljhbbgfpccchaaGreatDoor
open Go Go.RowKit Go.Bm
open Go.Am (Sc)
set_option maxRecDepth 100000

/-- jointure/num.Bytes (17378) -/
noncomputable def e11 : List (List AV × RowLit) := [
  ([q4 3000 0 0 0], ⟨5, 0, 1, 2, 2, false, [b1 11, b1 184]⟩),
  ([q4 80 0 0 0], ⟨5, 0, 1, 1, 1, false, [b1 80]⟩),
  ([q4 1000 0 0 0], ⟨5, 0, 1, 2, 2, false, [b1 3, b1 232]⟩),
  ([q4 50 0 0 0], ⟨5, 0, 1, 1, 1, false, [b1 50]⟩),
  ([q4 6000 0 0 0], ⟨5, 0, 1, 2, 2, false, [b1 23, b1 112]⟩),
  ([q4 160 0 0 0], ⟨5, 0, 1, 1, 1, false, [b1 160]⟩),
  ([q4 9000 0 0 0], ⟨5, 0, 1, 2, 2, false, [b1 35, b1 40]⟩),
  ([q4 240 0 0 0], ⟨5, 0, 1, 1, 1, false, [b1 240]⟩),
  ([q4 500 0 0 0], ⟨5, 0, 1, 2, 2, false, [b1 1, b1 244]⟩),
  ([q4 25 0 0 0], ⟨5, 0, 1, 1, 1, false, [b1 25]⟩),
  ([q4 12000 0 0 0], ⟨5, 0, 1, 2, 2, false, [b1 46, b1 224]⟩),
  ([q4 320 0 0 0], ⟨5, 0, 1, 2, 2, false, [b1 1, b1 64]⟩),
  ([q4 15000 0 0 0], ⟨5, 0, 1, 2, 2, false, [b1 58, b1 152]⟩),
  ([q4 400 0 0 0], ⟨5, 0, 1, 2, 2, false, [b1 1, b1 144]⟩),
  ([q4 18000 0 0 0], ⟨5, 0, 1, 2, 2, false, [b1 70, b1 80]⟩),
  ([q4 480 0 0 0], ⟨5, 0, 1, 2, 2, false, [b1 1, b1 224]⟩),
  ([q4 14 0 0 0], ⟨5, 0, 1, 1, 1, false, [b1 14]⟩),
  ([q4 2986 0 0 0], ⟨5, 0, 1, 2, 2, false, [b1 11, b1 170]⟩),
  ([q4 10 0 0 0], ⟨5, 0, 1, 1, 1, false, [b1 10]⟩),
  ([q4 4 0 0 0], ⟨5, 0, 1, 1, 1, false, [b1 4]⟩),
  ([q4 5 0 0 0], ⟨5, 0, 1, 1, 1, false, [b1 5]⟩),
  ([q4 17995 0 0 0], ⟨5, 0, 1, 2, 2, false, [b1 70, b1 75]⟩),
  ([q4 2 0 0 0], ⟨5, 0, 1, 1, 1, false, [b1 2]⟩),
  ([q4 17993 0 0 0], ⟨5, 0, 1, 2, 2, false, [b1 70, b1 73]⟩)]
theorem k11 : (keepR 140 e11).ok Tryz.prog := keepR_ok (k := 1000) (d := 30) mixed KT_ok XT_ok baseV_ok (by kernel_rfl)

/-- jointure/coins.One (1540) -/
noncomputable def e12 : List (List AV × RowLit) := [
  ([b1 0, q4 3000 0 0 0], ⟨110, 0, 5, 1, 1, true, [b1 0, .s (.i .u64 (.ofNat 3000)), .s (.i .u64 (.ofNat 0)), .s (.i .u64 (.ofNat 0)), .s (.i .u64 (.ofNat 0))]⟩),
  ([b1 2, q4 80 0 0 0], ⟨110, 0, 5, 1, 1, true, [b1 2, .s (.i .u64 (.ofNat 80)), .s (.i .u64 (.ofNat 0)), .s (.i .u64 (.ofNat 0)), .s (.i .u64 (.ofNat 0))]⟩),
  ([b1 0, q4 6000 0 0 0], ⟨110, 0, 5, 1, 1, true, [b1 0, .s (.i .u64 (.ofNat 6000)), .s (.i .u64 (.ofNat 0)), .s (.i .u64 (.ofNat 0)), .s (.i .u64 (.ofNat 0))]⟩),
  ([b1 2, q4 160 0 0 0], ⟨110, 0, 5, 1, 1, true, [b1 2, .s (.i .u64 (.ofNat 160)), .s (.i .u64 (.ofNat 0)), .s (.i .u64 (.ofNat 0)), .s (.i .u64 (.ofNat 0))]⟩),
  ([b1 0, q4 9000 0 0 0], ⟨110, 0, 5, 1, 1, true, [b1 0, .s (.i .u64 (.ofNat 9000)), .s (.i .u64 (.ofNat 0)), .s (.i .u64 (.ofNat 0)), .s (.i .u64 (.ofNat 0))]⟩),
  ([b1 2, q4 240 0 0 0], ⟨110, 0, 5, 1, 1, true, [b1 2, .s (.i .u64 (.ofNat 240)), .s (.i .u64 (.ofNat 0)), .s (.i .u64 (.ofNat 0)), .s (.i .u64 (.ofNat 0))]⟩),
  ([b1 0, q4 500 0 0 0], ⟨110, 0, 5, 1, 1, true, [b1 0, .s (.i .u64 (.ofNat 500)), .s (.i .u64 (.ofNat 0)), .s (.i .u64 (.ofNat 0)), .s (.i .u64 (.ofNat 0))]⟩),
  ([b1 2, q4 25 0 0 0], ⟨110, 0, 5, 1, 1, true, [b1 2, .s (.i .u64 (.ofNat 25)), .s (.i .u64 (.ofNat 0)), .s (.i .u64 (.ofNat 0)), .s (.i .u64 (.ofNat 0))]⟩),
  ([b1 0, q4 1000 0 0 0], ⟨110, 0, 5, 1, 1, true, [b1 0, .s (.i .u64 (.ofNat 1000)), .s (.i .u64 (.ofNat 0)), .s (.i .u64 (.ofNat 0)), .s (.i .u64 (.ofNat 0))]⟩),
  ([b1 2, q4 50 0 0 0], ⟨110, 0, 5, 1, 1, true, [b1 2, .s (.i .u64 (.ofNat 50)), .s (.i .u64 (.ofNat 0)), .s (.i .u64 (.ofNat 0)), .s (.i .u64 (.ofNat 0))]⟩),
  ([b1 0, q4 12000 0 0 0], ⟨110, 0, 5, 1, 1, true, [b1 0, .s (.i .u64 (.ofNat 12000)), .s (.i .u64 (.ofNat 0)), .s (.i .u64 (.ofNat 0)), .s (.i .u64 (.ofNat 0))]⟩),
  ([b1 2, q4 320 0 0 0], ⟨110, 0, 5, 1, 1, true, [b1 2, .s (.i .u64 (.ofNat 320)), .s (.i .u64 (.ofNat 0)), .s (.i .u64 (.ofNat 0)), .s (.i .u64 (.ofNat 0))]⟩),
  ([b1 0, q4 15000 0 0 0], ⟨110, 0, 5, 1, 1, true, [b1 0, .s (.i .u64 (.ofNat 15000)), .s (.i .u64 (.ofNat 0)), .s (.i .u64 (.ofNat 0)), .s (.i .u64 (.ofNat 0))]⟩),
  ([b1 2, q4 400 0 0 0], ⟨110, 0, 5, 1, 1, true, [b1 2, .s (.i .u64 (.ofNat 400)), .s (.i .u64 (.ofNat 0)), .s (.i .u64 (.ofNat 0)), .s (.i .u64 (.ofNat 0))]⟩),
  ([b1 0, q4 18000 0 0 0], ⟨110, 0, 5, 1, 1, true, [b1 0, .s (.i .u64 (.ofNat 18000)), .s (.i .u64 (.ofNat 0)), .s (.i .u64 (.ofNat 0)), .s (.i .u64 (.ofNat 0))]⟩),
  ([b1 2, q4 480 0 0 0], ⟨110, 0, 5, 1, 1, true, [b1 2, .s (.i .u64 (.ofNat 480)), .s (.i .u64 (.ofNat 0)), .s (.i .u64 (.ofNat 0)), .s (.i .u64 (.ofNat 0))]⟩),
  ([b1 0, q4 14 0 0 0], ⟨110, 0, 5, 1, 1, true, [b1 0, .s (.i .u64 (.ofNat 14)), .s (.i .u64 (.ofNat 0)), .s (.i .u64 (.ofNat 0)), .s (.i .u64 (.ofNat 0))]⟩),
  ([b1 0, q4 4 0 0 0], ⟨110, 0, 5, 1, 1, true, [b1 0, .s (.i .u64 (.ofNat 4)), .s (.i .u64 (.ofNat 0)), .s (.i .u64 (.ofNat 0)), .s (.i .u64 (.ofNat 0))]⟩),
  ([b1 0, q4 5 0 0 0], ⟨110, 0, 5, 1, 1, true, [b1 0, .s (.i .u64 (.ofNat 5)), .s (.i .u64 (.ofNat 0)), .s (.i .u64 (.ofNat 0)), .s (.i .u64 (.ofNat 0))]⟩),
  ([b1 0, q4 2 0 0 0], ⟨110, 0, 5, 1, 1, true, [b1 0, .s (.i .u64 (.ofNat 2)), .s (.i .u64 (.ofNat 0)), .s (.i .u64 (.ofNat 0)), .s (.i .u64 (.ofNat 0))]⟩)]
theorem k12 : (keepR 33 e12).ok Tryz.prog := keepR_ok (k := 1000) (d := 30) mixed KT_ok XT_ok baseV_ok (by kernel_rfl)

end Go.Proofs.YtljhbbgfpccchaaGreatDoor
