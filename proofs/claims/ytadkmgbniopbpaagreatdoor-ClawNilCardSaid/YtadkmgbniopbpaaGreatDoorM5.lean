/-
  Results that are kept.
-/
import Derived.Test.YtadkmgbniopbpaaGreatDoorD6
set_option linter.unusedSimpArgs false
set_option linter.unusedVariables false
namespace Go.Proofs.YtadkmgbniopbpaaGreatDoor
open Go Go.RowKit Go.Bm
open Go.Am (Sc)
set_option maxRecDepth 100000

/-- jointure/num.Bytes (19573) -/
noncomputable def e10 : List (List AV × RowLit) := [
  ([q4 3000 0 0 0], ⟨5, 0, 1, 2, 2, false, [b1 11, b1 184]⟩),
  ([q4 80 0 0 0], ⟨5, 0, 1, 1, 1, false, [b1 80]⟩),
  ([q4 1000 0 0 0], ⟨5, 0, 1, 2, 2, false, [b1 3, b1 232]⟩),
  ([q4 50 0 0 0], ⟨5, 0, 1, 1, 1, false, [b1 50]⟩),
  ([q4 6000 0 0 0], ⟨5, 0, 1, 2, 2, false, [b1 23, b1 112]⟩),
  ([q4 160 0 0 0], ⟨5, 0, 1, 1, 1, false, [b1 160]⟩),
  ([q4 9000 0 0 0], ⟨5, 0, 1, 2, 2, false, [b1 35, b1 40]⟩),
  ([q4 240 0 0 0], ⟨5, 0, 1, 1, 1, false, [b1 240]⟩),
  ([q4 500 0 0 0], ⟨5, 0, 1, 2, 2, false, [b1 1, b1 244]⟩),
  ([q4 25 0 0 0], ⟨5, 0, 1, 1, 1, false, [b1 25]⟩),
  ([q4 12000 0 0 0], ⟨5, 0, 1, 2, 2, false, [b1 46, b1 224]⟩),
  ([q4 320 0 0 0], ⟨5, 0, 1, 2, 2, false, [b1 1, b1 64]⟩),
  ([q4 15000 0 0 0], ⟨5, 0, 1, 2, 2, false, [b1 58, b1 152]⟩),
  ([q4 400 0 0 0], ⟨5, 0, 1, 2, 2, false, [b1 1, b1 144]⟩),
  ([q4 18000 0 0 0], ⟨5, 0, 1, 2, 2, false, [b1 70, b1 80]⟩),
  ([q4 480 0 0 0], ⟨5, 0, 1, 2, 2, false, [b1 1, b1 224]⟩),
  ([q4 2900 0 0 0], ⟨5, 0, 1, 2, 2, false, [b1 11, b1 84]⟩),
  ([q4 1900 0 0 0], ⟨5, 0, 1, 2, 2, false, [b1 7, b1 108]⟩),
  ([q4 100 0 0 0], ⟨5, 0, 1, 1, 1, false, [b1 100]⟩),
  ([q4 2600 0 0 0], ⟨5, 0, 1, 2, 2, false, [b1 10, b1 40]⟩),
  ([q4 300 0 0 0], ⟨5, 0, 1, 2, 2, false, [b1 1, b1 44]⟩),
  ([q4 30 0 0 0], ⟨5, 0, 1, 1, 1, false, [b1 30]⟩),
  ([q4 3100 0 0 0], ⟨5, 0, 1, 2, 2, false, [b1 12, b1 28]⟩),
  ([q4 130 0 0 0], ⟨5, 0, 1, 1, 1, false, [b1 130]⟩),
  ([q4 2000 0 0 0], ⟨5, 0, 1, 2, 2, false, [b1 7, b1 208]⟩),
  ([q4 600 0 0 0], ⟨5, 0, 1, 2, 2, false, [b1 2, b1 88]⟩),
  ([q4 900 0 0 0], ⟨5, 0, 1, 2, 2, false, [b1 3, b1 132]⟩)]
theorem k10 : (keepR 171 e10).ok Tryz.prog := keepR_ok (k := 1000) (d := 30) mixed KT_ok XT_ok baseV_ok (by kernel_rfl)

/-- jointure/coins.One (1540) -/
noncomputable def e11 : List (List AV × RowLit) := [
  ([b1 0, q4 3000 0 0 0], ⟨56, 0, 5, 1, 1, true, [b1 0, .s (.i .u64 (.ofNat 3000)), .s (.i .u64 (.ofNat 0)), .s (.i .u64 (.ofNat 0)), .s (.i .u64 (.ofNat 0))]⟩),
  ([b1 2, q4 80 0 0 0], ⟨56, 0, 5, 1, 1, true, [b1 2, .s (.i .u64 (.ofNat 80)), .s (.i .u64 (.ofNat 0)), .s (.i .u64 (.ofNat 0)), .s (.i .u64 (.ofNat 0))]⟩),
  ([b1 0, q4 6000 0 0 0], ⟨56, 0, 5, 1, 1, true, [b1 0, .s (.i .u64 (.ofNat 6000)), .s (.i .u64 (.ofNat 0)), .s (.i .u64 (.ofNat 0)), .s (.i .u64 (.ofNat 0))]⟩),
  ([b1 2, q4 160 0 0 0], ⟨56, 0, 5, 1, 1, true, [b1 2, .s (.i .u64 (.ofNat 160)), .s (.i .u64 (.ofNat 0)), .s (.i .u64 (.ofNat 0)), .s (.i .u64 (.ofNat 0))]⟩),
  ([b1 0, q4 9000 0 0 0], ⟨56, 0, 5, 1, 1, true, [b1 0, .s (.i .u64 (.ofNat 9000)), .s (.i .u64 (.ofNat 0)), .s (.i .u64 (.ofNat 0)), .s (.i .u64 (.ofNat 0))]⟩),
  ([b1 2, q4 240 0 0 0], ⟨56, 0, 5, 1, 1, true, [b1 2, .s (.i .u64 (.ofNat 240)), .s (.i .u64 (.ofNat 0)), .s (.i .u64 (.ofNat 0)), .s (.i .u64 (.ofNat 0))]⟩),
  ([b1 0, q4 500 0 0 0], ⟨56, 0, 5, 1, 1, true, [b1 0, .s (.i .u64 (.ofNat 500)), .s (.i .u64 (.ofNat 0)), .s (.i .u64 (.ofNat 0)), .s (.i .u64 (.ofNat 0))]⟩),
  ([b1 2, q4 25 0 0 0], ⟨56, 0, 5, 1, 1, true, [b1 2, .s (.i .u64 (.ofNat 25)), .s (.i .u64 (.ofNat 0)), .s (.i .u64 (.ofNat 0)), .s (.i .u64 (.ofNat 0))]⟩),
  ([b1 0, q4 1000 0 0 0], ⟨56, 0, 5, 1, 1, true, [b1 0, .s (.i .u64 (.ofNat 1000)), .s (.i .u64 (.ofNat 0)), .s (.i .u64 (.ofNat 0)), .s (.i .u64 (.ofNat 0))]⟩),
  ([b1 2, q4 50 0 0 0], ⟨56, 0, 5, 1, 1, true, [b1 2, .s (.i .u64 (.ofNat 50)), .s (.i .u64 (.ofNat 0)), .s (.i .u64 (.ofNat 0)), .s (.i .u64 (.ofNat 0))]⟩),
  ([b1 0, q4 12000 0 0 0], ⟨56, 0, 5, 1, 1, true, [b1 0, .s (.i .u64 (.ofNat 12000)), .s (.i .u64 (.ofNat 0)), .s (.i .u64 (.ofNat 0)), .s (.i .u64 (.ofNat 0))]⟩),
  ([b1 2, q4 320 0 0 0], ⟨56, 0, 5, 1, 1, true, [b1 2, .s (.i .u64 (.ofNat 320)), .s (.i .u64 (.ofNat 0)), .s (.i .u64 (.ofNat 0)), .s (.i .u64 (.ofNat 0))]⟩),
  ([b1 0, q4 15000 0 0 0], ⟨56, 0, 5, 1, 1, true, [b1 0, .s (.i .u64 (.ofNat 15000)), .s (.i .u64 (.ofNat 0)), .s (.i .u64 (.ofNat 0)), .s (.i .u64 (.ofNat 0))]⟩),
  ([b1 2, q4 400 0 0 0], ⟨56, 0, 5, 1, 1, true, [b1 2, .s (.i .u64 (.ofNat 400)), .s (.i .u64 (.ofNat 0)), .s (.i .u64 (.ofNat 0)), .s (.i .u64 (.ofNat 0))]⟩),
  ([b1 0, q4 18000 0 0 0], ⟨56, 0, 5, 1, 1, true, [b1 0, .s (.i .u64 (.ofNat 18000)), .s (.i .u64 (.ofNat 0)), .s (.i .u64 (.ofNat 0)), .s (.i .u64 (.ofNat 0))]⟩),
  ([b1 2, q4 480 0 0 0], ⟨56, 0, 5, 1, 1, true, [b1 2, .s (.i .u64 (.ofNat 480)), .s (.i .u64 (.ofNat 0)), .s (.i .u64 (.ofNat 0)), .s (.i .u64 (.ofNat 0))]⟩),
  ([b1 0, q4 2900 0 0 0], ⟨56, 0, 5, 1, 1, true, [b1 0, .s (.i .u64 (.ofNat 2900)), .s (.i .u64 (.ofNat 0)), .s (.i .u64 (.ofNat 0)), .s (.i .u64 (.ofNat 0))]⟩),
  ([b1 0, q4 300 0 0 0], ⟨56, 0, 5, 1, 1, true, [b1 0, .s (.i .u64 (.ofNat 300)), .s (.i .u64 (.ofNat 0)), .s (.i .u64 (.ofNat 0)), .s (.i .u64 (.ofNat 0))]⟩),
  ([b1 0, q4 100 0 0 0], ⟨56, 0, 5, 1, 1, true, [b1 0, .s (.i .u64 (.ofNat 100)), .s (.i .u64 (.ofNat 0)), .s (.i .u64 (.ofNat 0)), .s (.i .u64 (.ofNat 0))]⟩),
  ([b1 0, q4 900 0 0 0], ⟨56, 0, 5, 1, 1, true, [b1 0, .s (.i .u64 (.ofNat 900)), .s (.i .u64 (.ofNat 0)), .s (.i .u64 (.ofNat 0)), .s (.i .u64 (.ofNat 0))]⟩)]
theorem k11 : (keepR 91 e11).ok Tryz.prog := keepR_ok (k := 1000) (d := 30) mixed KT_ok XT_ok baseV_ok (by kernel_rfl)

end Go.Proofs.YtadkmgbniopbpaaGreatDoor
