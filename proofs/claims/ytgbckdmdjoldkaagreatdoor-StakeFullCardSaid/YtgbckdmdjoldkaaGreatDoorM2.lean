/-
  Results that are kept.
-/
import Derived.Test.YtgbckdmdjoldkaaGreatDoorD6
set_option linter.unusedSimpArgs false
set_option linter.unusedVariables false
namespace Go.Proofs.YtgbckdmdjoldkaaGreatDoor
open Go Go.RowKit Go.Bm
open Go.Am (Sc)
set_option maxRecDepth 100000

/-- jointure/num.Rest (6402) -/
noncomputable def e4 : List (List AV × AV) := [
  ([q4 0 0 0 0, q4 0 0 0 0], q4 0 0 0 0),
  ([q4 0 0 0 0, q4 1 0 0 0], q4 0 0 0 0),
  ([q4 0 0 0 0, q4 80 0 0 0], q4 0 0 0 0),
  ([q4 1 0 0 0, q4 0 0 0 0], q4 1 0 0 0),
  ([q4 1 0 0 0, q4 1 0 0 0], q4 0 0 0 0),
  ([q4 1 0 0 0, q4 100 0 0 0], q4 0 0 0 0),
  ([q4 1 0 0 0, q4 2 0 0 0], q4 0 0 0 0),
  ([q4 1 0 0 0, q4 3 0 0 0], q4 0 0 0 0),
  ([q4 1 0 0 0, q4 4 0 0 0], q4 0 0 0 0),
  ([q4 1 0 0 0, q4 96 0 0 0], q4 0 0 0 0),
  ([q4 1 0 0 0, q4 97 0 0 0], q4 0 0 0 0),
  ([q4 1 0 0 0, q4 98 0 0 0], q4 0 0 0 0),
  ([q4 1 0 0 0, q4 99 0 0 0], q4 0 0 0 0),
  ([q4 100 0 0 0, q4 0 0 0 0], q4 100 0 0 0),
  ([q4 100 0 0 0, q4 1 0 0 0], q4 99 0 0 0),
  ([q4 100 0 0 0, q4 100 0 0 0], q4 0 0 0 0),
  ([q4 100 0 0 0, q4 3000 0 0 0], q4 0 0 0 0),
  ([q4 1000 0 0 0, q4 0 0 0 0], q4 1000 0 0 0),
  ([q4 2 0 0 0, q4 1 0 0 0], q4 1 0 0 0),
  ([q4 2 0 0 0, q4 2 0 0 0], q4 0 0 0 0),
  ([q4 2 0 0 0, q4 5 0 0 0], q4 0 0 0 0),
  ([q4 3 0 0 0, q4 1 0 0 0], q4 2 0 0 0),
  ([q4 3000 0 0 0, q4 100 0 0 0], q4 2900 0 0 0),
  ([q4 3000 0 0 0, q4 5 0 0 0], q4 2995 0 0 0),
  ([q4 4 0 0 0, q4 1 0 0 0], q4 3 0 0 0),
  ([q4 5 0 0 0, q4 0 0 0 0], q4 5 0 0 0),
  ([q4 5 0 0 0, q4 2 0 0 0], q4 3 0 0 0),
  ([q4 5 0 0 0, q4 3000 0 0 0], q4 0 0 0 0),
  ([q4 50 0 0 0, q4 0 0 0 0], q4 50 0 0 0),
  ([q4 96 0 0 0, q4 1 0 0 0], q4 95 0 0 0),
  ([q4 97 0 0 0, q4 1 0 0 0], q4 96 0 0 0),
  ([q4 98 0 0 0, q4 1 0 0 0], q4 97 0 0 0),
  ([q4 99 0 0 0, q4 1 0 0 0], q4 98 0 0 0)]
theorem k4 : (keepV 82 e4).ok Tryz.prog := keepV_ok (k := 1000) (d := 30) mixed KT_ok XT_ok baseV_ok (by kernel_rfl)

/-- jointure/num.Add (4495) -/
noncomputable def e5 : List (List AV × AV) := [
  ([q4 0 0 0 0, q4 0 0 0 0], .t [q4 0 0 0 0, .s (.i .i64 (.ofNat 0))]),
  ([q4 0 0 0 0, q4 1 0 0 0], .t [q4 1 0 0 0, .s (.i .i64 (.ofNat 0))]),
  ([q4 0 0 0 0, q4 100 0 0 0], .t [q4 100 0 0 0, .s (.i .i64 (.ofNat 0))]),
  ([q4 0 0 0 0, q4 2 0 0 0], .t [q4 2 0 0 0, .s (.i .i64 (.ofNat 0))]),
  ([q4 0 0 0 0, q4 25 0 0 0], .t [q4 25 0 0 0, .s (.i .i64 (.ofNat 0))]),
  ([q4 0 0 0 0, q4 3000 0 0 0], .t [q4 3000 0 0 0, .s (.i .i64 (.ofNat 0))]),
  ([q4 0 0 0 0, q4 5 0 0 0], .t [q4 5 0 0 0, .s (.i .i64 (.ofNat 0))]),
  ([q4 0 0 0 0, q4 500 0 0 0], .t [q4 500 0 0 0, .s (.i .i64 (.ofNat 0))]),
  ([q4 0 0 0 0, q4 80 0 0 0], .t [q4 80 0 0 0, .s (.i .i64 (.ofNat 0))]),
  ([q4 1 0 0 0, q4 1 0 0 0], .t [q4 2 0 0 0, .s (.i .i64 (.ofNat 0))]),
  ([q4 12000 0 0 0, q4 3000 0 0 0], .t [q4 15000 0 0 0, .s (.i .i64 (.ofNat 0))]),
  ([q4 15000 0 0 0, q4 3000 0 0 0], .t [q4 18000 0 0 0, .s (.i .i64 (.ofNat 0))]),
  ([q4 160 0 0 0, q4 80 0 0 0], .t [q4 240 0 0 0, .s (.i .i64 (.ofNat 0))]),
  ([q4 2 0 0 0, q4 1 0 0 0], .t [q4 3 0 0 0, .s (.i .i64 (.ofNat 0))]),
  ([q4 240 0 0 0, q4 80 0 0 0], .t [q4 320 0 0 0, .s (.i .i64 (.ofNat 0))]),
  ([q4 25 0 0 0, q4 25 0 0 0], .t [q4 50 0 0 0, .s (.i .i64 (.ofNat 0))]),
  ([q4 2900 0 0 0, q4 1 0 0 0], .t [q4 2901 0 0 0, .s (.i .i64 (.ofNat 0))]),
  ([q4 2901 0 0 0, q4 1 0 0 0], .t [q4 2902 0 0 0, .s (.i .i64 (.ofNat 0))]),
  ([q4 2902 0 0 0, q4 1 0 0 0], .t [q4 2903 0 0 0, .s (.i .i64 (.ofNat 0))]),
  ([q4 2903 0 0 0, q4 1 0 0 0], .t [q4 2904 0 0 0, .s (.i .i64 (.ofNat 0))]),
  ([q4 2995 0 0 0, q4 2 0 0 0], .t [q4 2997 0 0 0, .s (.i .i64 (.ofNat 0))]),
  ([q4 3 0 0 0, q4 1 0 0 0], .t [q4 4 0 0 0, .s (.i .i64 (.ofNat 0))]),
  ([q4 3000 0 0 0, q4 3000 0 0 0], .t [q4 6000 0 0 0, .s (.i .i64 (.ofNat 0))]),
  ([q4 320 0 0 0, q4 80 0 0 0], .t [q4 400 0 0 0, .s (.i .i64 (.ofNat 0))]),
  ([q4 400 0 0 0, q4 80 0 0 0], .t [q4 480 0 0 0, .s (.i .i64 (.ofNat 0))]),
  ([q4 500 0 0 0, q4 500 0 0 0], .t [q4 1000 0 0 0, .s (.i .i64 (.ofNat 0))]),
  ([q4 6000 0 0 0, q4 3000 0 0 0], .t [q4 9000 0 0 0, .s (.i .i64 (.ofNat 0))]),
  ([q4 80 0 0 0, q4 80 0 0 0], .t [q4 160 0 0 0, .s (.i .i64 (.ofNat 0))]),
  ([q4 9000 0 0 0, q4 3000 0 0 0], .t [q4 12000 0 0 0, .s (.i .i64 (.ofNat 0))])]
theorem k5 : (keepV 78 e5).ok Tryz.prog := keepV_ok (k := 1000) (d := 30) mixed KT_ok XT_ok baseV_ok (by kernel_rfl)

/-- jointure/num.Bytes (713) -/
noncomputable def e6 : List (List AV × AV) := [
  ([q4 0 0 0 0], .s .sn)]
theorem k6 : (keepV 145 e6).ok Tryz.prog := keepV_ok (k := 1000) (d := 30) mixed KT_ok XT_ok baseV_ok (by kernel_rfl)

/-- jointure/coins.One (584) -/
noncomputable def e7 : List (List AV × AV) := [
  ([b1 0, q4 0 0 0 0], .s .sn),
  ([b1 1, q4 0 0 0 0], .s .sn),
  ([b1 2, q4 0 0 0 0], .s .sn),
  ([b1 3, q4 0 0 0 0], .s .sn),
  ([b1 4, q4 0 0 0 0], .s .sn),
  ([b1 5, q4 0 0 0 0], .s .sn),
  ([b1 6, q4 0 0 0 0], .s .sn),
  ([b1 7, q4 0 0 0 0], .s .sn)]
theorem k7 : (keepV 83 e7).ok Tryz.prog := keepV_ok (k := 1000) (d := 30) mixed KT_ok XT_ok baseV_ok (by kernel_rfl)

end Go.Proofs.YtgbckdmdjoldkaaGreatDoor
