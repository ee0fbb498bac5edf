/-
  Results that are kept: bytes of numbers
-/
import Derived.Test.YtlpjiknnfjnmbaaGreatDoorNC
import Derived.Test.YtlpjiknnfjnmbaaGreatDoorD6
set_option linter.unusedSimpArgs false
set_option linter.unusedVariables false
namespace Go.Proofs.YtlpjiknnfjnmbaaGreatDoor
open Go Go.RowKit Go.Bm
open Go.Am (Sc)
set_option maxRecDepth 100000

noncomputable def l143 : List (List AV × AV) := [
  ([q4 0 0 0 0], .s .sn)]
theorem k143 : (keepV 143 l143).ok Tryz.prog := keepV_ok (k := 1000) (d := 20) mixed KT_ok XT_ok baseV_ok (by kernel_rfl)
noncomputable def r143 : List (List AV × RowLit) := [
  ([q4 3000 0 0 0], ⟨5, 0, 1, 2, 2, false, [b1 11, b1 184]⟩),
  ([q4 80 0 0 0], ⟨5, 0, 1, 1, 1, false, [b1 80]⟩),
  ([q4 1000 0 0 0], ⟨5, 0, 1, 2, 2, false, [b1 3, b1 232]⟩),
  ([q4 50 0 0 0], ⟨5, 0, 1, 1, 1, false, [b1 50]⟩),
  ([q4 6000 0 0 0], ⟨5, 0, 1, 2, 2, false, [b1 23, b1 112]⟩),
  ([q4 160 0 0 0], ⟨5, 0, 1, 1, 1, false, [b1 160]⟩),
  ([q4 9000 0 0 0], ⟨5, 0, 1, 2, 2, false, [b1 35, b1 40]⟩),
  ([q4 240 0 0 0], ⟨5, 0, 1, 1, 1, false, [b1 240]⟩),
  ([q4 500 0 0 0], ⟨5, 0, 1, 2, 2, false, [b1 1, b1 244]⟩),
  ([q4 25 0 0 0], ⟨5, 0, 1, 1, 1, false, [b1 25]⟩),
  ([q4 12000 0 0 0], ⟨5, 0, 1, 2, 2, false, [b1 46, b1 224]⟩),
  ([q4 320 0 0 0], ⟨5, 0, 1, 2, 2, false, [b1 1, b1 64]⟩),
  ([q4 15000 0 0 0], ⟨5, 0, 1, 2, 2, false, [b1 58, b1 152]⟩),
  ([q4 400 0 0 0], ⟨5, 0, 1, 2, 2, false, [b1 1, b1 144]⟩),
  ([q4 18000 0 0 0], ⟨5, 0, 1, 2, 2, false, [b1 70, b1 80]⟩),
  ([q4 480 0 0 0], ⟨5, 0, 1, 2, 2, false, [b1 1, b1 224]⟩),
  ([q4 5 0 0 0], ⟨5, 0, 1, 1, 1, false, [b1 5]⟩),
  ([q4 2995 0 0 0], ⟨5, 0, 1, 2, 2, false, [b1 11, b1 179]⟩),
  ([q4 3 0 0 0], ⟨5, 0, 1, 1, 1, false, [b1 3]⟩),
  ([q4 2 0 0 0], ⟨5, 0, 1, 1, 1, false, [b1 2]⟩),
  ([q4 2997 0 0 0], ⟨5, 0, 1, 2, 2, false, [b1 11, b1 181]⟩)]
theorem kr143 : (keepR 143 r143).ok Tryz.prog := keepR_ok (k := 1000) (d := 20) mixed KT_ok XT_ok baseV_ok (by kernel_rfl)
end Go.Proofs.YtlpjiknnfjnmbaaGreatDoor
