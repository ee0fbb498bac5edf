/-
  Results that are kept.
-/
import Derived.Test.YtljhbbgfpccchaaGreatDoorD6
set_option linter.unusedSimpArgs false
set_option linter.unusedVariables false
namespace Go.Proofs.YtljhbbgfpccchaaGreatDoor
open Go Go.RowKit Go.Bm
open Go.Am (Sc)
set_option maxRecDepth 100000

/-- jointure/jointureref01.Add (39100) -/
noncomputable def e1 : List (List AV × AV) := [
  ([q4 0 0 0 0, q4 3000 0 0 0], .t [q4 3000 0 0 0, .s (.b true)]),
  ([q4 0 0 0 0, q4 0 0 0 0], .t [q4 0 0 0 0, .s (.b true)]),
  ([q4 0 0 0 0, q4 80 0 0 0], .t [q4 80 0 0 0, .s (.b true)]),
  ([q4 3000 0 0 0, q4 3000 0 0 0], .t [q4 6000 0 0 0, .s (.b true)]),
  ([q4 80 0 0 0, q4 80 0 0 0], .t [q4 160 0 0 0, .s (.b true)]),
  ([q4 6000 0 0 0, q4 3000 0 0 0], .t [q4 9000 0 0 0, .s (.b true)]),
  ([q4 160 0 0 0, q4 80 0 0 0], .t [q4 240 0 0 0, .s (.b true)]),
  ([q4 0 0 0 0, q4 500 0 0 0], .t [q4 500 0 0 0, .s (.b true)]),
  ([q4 0 0 0 0, q4 25 0 0 0], .t [q4 25 0 0 0, .s (.b true)]),
  ([q4 500 0 0 0, q4 500 0 0 0], .t [q4 1000 0 0 0, .s (.b true)]),
  ([q4 25 0 0 0, q4 25 0 0 0], .t [q4 50 0 0 0, .s (.b true)]),
  ([q4 9000 0 0 0, q4 3000 0 0 0], .t [q4 12000 0 0 0, .s (.b true)]),
  ([q4 240 0 0 0, q4 80 0 0 0], .t [q4 320 0 0 0, .s (.b true)]),
  ([q4 12000 0 0 0, q4 3000 0 0 0], .t [q4 15000 0 0 0, .s (.b true)]),
  ([q4 320 0 0 0, q4 80 0 0 0], .t [q4 400 0 0 0, .s (.b true)]),
  ([q4 15000 0 0 0, q4 3000 0 0 0], .t [q4 18000 0 0 0, .s (.b true)]),
  ([q4 400 0 0 0, q4 80 0 0 0], .t [q4 480 0 0 0, .s (.b true)])]
theorem k1 : (keepV 154 e1).ok Tryz.prog := keepV_ok (k := 1000) (d := 30) mixed KT_ok XT_ok baseV_ok (by kernel_rfl)

/-- jointure/num.sub (2480) -/
noncomputable def e2 : List (List AV × AV) := [
  ([q4 0 0 0 0, q4 0 0 0 0], .t [q4 0 0 0 0, .s (.b false)]),
  ([q4 14 0 0 0, q4 0 0 0 0], .t [q4 14 0 0 0, .s (.b false)]),
  ([q4 14 0 0 0, q4 3000 0 0 0], .t [q4 18446744073709548630 18446744073709551615 18446744073709551615 18446744073709551615, .s (.b true)]),
  ([q4 0 0 0 0, q4 80 0 0 0], .t [q4 18446744073709551536 18446744073709551615 18446744073709551615 18446744073709551615, .s (.b true)]),
  ([q4 3000 0 0 0, q4 14 0 0 0], .t [q4 2986 0 0 0, .s (.b false)]),
  ([q4 14 0 0 0, q4 14 0 0 0], .t [q4 0 0 0 0, .s (.b false)]),
  ([q4 14 0 0 0, q4 4 0 0 0], .t [q4 10 0 0 0, .s (.b false)]),
  ([q4 4 0 0 0, q4 14 0 0 0], .t [q4 18446744073709551606 18446744073709551615 18446744073709551615 18446744073709551615, .s (.b true)]),
  ([q4 12500 0 0 0, q4 10000 0 0 0], .t [q4 2500 0 0 0, .s (.b false)]),
  ([q4 10000 0 0 0, q4 10000 0 0 0], .t [q4 0 0 0 0, .s (.b false)]),
  ([q4 10 0 0 0, q4 5 0 0 0], .t [q4 5 0 0 0, .s (.b false)]),
  ([q4 5 0 0 0, q4 10 0 0 0], .t [q4 18446744073709551611 18446744073709551615 18446744073709551615 18446744073709551615, .s (.b true)]),
  ([q4 18000 0 0 0, q4 5 0 0 0], .t [q4 17995 0 0 0, .s (.b false)]),
  ([q4 4 0 0 0, q4 2 0 0 0], .t [q4 2 0 0 0, .s (.b false)]),
  ([q4 2 0 0 0, q4 4 0 0 0], .t [q4 18446744073709551614 18446744073709551615 18446744073709551615 18446744073709551615, .s (.b true)]),
  ([q4 17995 0 0 0, q4 2 0 0 0], .t [q4 17993 0 0 0, .s (.b false)])]
theorem k2 : (keepV 84 e2).ok Tryz.prog := keepV_ok (k := 1000) (d := 30) mixed KT_ok XT_ok baseV_ok (by kernel_rfl)

/-- jointure/num.Sub (2288) -/
noncomputable def e3 : List (List AV × AV) := [
  ([q4 0 0 0 0, q4 0 0 0 0], .t [q4 0 0 0 0, .s (.i .i64 (.ofNat 0))]),
  ([q4 14 0 0 0, q4 0 0 0 0], .t [q4 14 0 0 0, .s (.i .i64 (.ofNat 0))]),
  ([q4 14 0 0 0, q4 3000 0 0 0], .t [q4 0 0 0 0, .s (.i .i64 (.ofNat 3))]),
  ([q4 0 0 0 0, q4 80 0 0 0], .t [q4 0 0 0 0, .s (.i .i64 (.ofNat 3))]),
  ([q4 3000 0 0 0, q4 14 0 0 0], .t [q4 2986 0 0 0, .s (.i .i64 (.ofNat 0))]),
  ([q4 14 0 0 0, q4 4 0 0 0], .t [q4 10 0 0 0, .s (.i .i64 (.ofNat 0))]),
  ([q4 4 0 0 0, q4 14 0 0 0], .t [q4 0 0 0 0, .s (.i .i64 (.ofNat 3))]),
  ([q4 10 0 0 0, q4 5 0 0 0], .t [q4 5 0 0 0, .s (.i .i64 (.ofNat 0))]),
  ([q4 5 0 0 0, q4 10 0 0 0], .t [q4 0 0 0 0, .s (.i .i64 (.ofNat 3))]),
  ([q4 18000 0 0 0, q4 5 0 0 0], .t [q4 17995 0 0 0, .s (.i .i64 (.ofNat 0))]),
  ([q4 4 0 0 0, q4 2 0 0 0], .t [q4 2 0 0 0, .s (.i .i64 (.ofNat 0))]),
  ([q4 2 0 0 0, q4 4 0 0 0], .t [q4 0 0 0 0, .s (.i .i64 (.ofNat 3))]),
  ([q4 17995 0 0 0, q4 2 0 0 0], .t [q4 17993 0 0 0, .s (.i .i64 (.ofNat 0))])]
theorem k3 : (keepV 29 e3).ok Tryz.prog := keepV_ok (k := 1000) (d := 30) mixed KT_ok XT_ok baseV_ok (by kernel_rfl)

/-- jointure/num.Rest (2522) -/
noncomputable def e4 : List (List AV × AV) := [
  ([q4 0 0 0 0, q4 0 0 0 0], q4 0 0 0 0),
  ([q4 14 0 0 0, q4 0 0 0 0], q4 14 0 0 0),
  ([q4 14 0 0 0, q4 3000 0 0 0], q4 0 0 0 0),
  ([q4 0 0 0 0, q4 80 0 0 0], q4 0 0 0 0),
  ([q4 3000 0 0 0, q4 14 0 0 0], q4 2986 0 0 0),
  ([q4 14 0 0 0, q4 4 0 0 0], q4 10 0 0 0),
  ([q4 4 0 0 0, q4 14 0 0 0], q4 0 0 0 0),
  ([q4 10 0 0 0, q4 5 0 0 0], q4 5 0 0 0),
  ([q4 5 0 0 0, q4 10 0 0 0], q4 0 0 0 0),
  ([q4 18000 0 0 0, q4 5 0 0 0], q4 17995 0 0 0),
  ([q4 4 0 0 0, q4 2 0 0 0], q4 2 0 0 0),
  ([q4 2 0 0 0, q4 4 0 0 0], q4 0 0 0 0),
  ([q4 17995 0 0 0, q4 2 0 0 0], q4 17993 0 0 0)]
theorem k4 : (keepV 8 e4).ok Tryz.prog := keepV_ok (k := 1000) (d := 30) mixed KT_ok XT_ok baseV_ok (by kernel_rfl)

/-- jointure/num.Add (3255) -/
noncomputable def e5 : List (List AV × AV) := [
  ([q4 0 0 0 0, q4 3000 0 0 0], .t [q4 3000 0 0 0, .s (.i .i64 (.ofNat 0))]),
  ([q4 0 0 0 0, q4 0 0 0 0], .t [q4 0 0 0 0, .s (.i .i64 (.ofNat 0))]),
  ([q4 0 0 0 0, q4 80 0 0 0], .t [q4 80 0 0 0, .s (.i .i64 (.ofNat 0))]),
  ([q4 3000 0 0 0, q4 3000 0 0 0], .t [q4 6000 0 0 0, .s (.i .i64 (.ofNat 0))]),
  ([q4 80 0 0 0, q4 80 0 0 0], .t [q4 160 0 0 0, .s (.i .i64 (.ofNat 0))]),
  ([q4 6000 0 0 0, q4 3000 0 0 0], .t [q4 9000 0 0 0, .s (.i .i64 (.ofNat 0))]),
  ([q4 160 0 0 0, q4 80 0 0 0], .t [q4 240 0 0 0, .s (.i .i64 (.ofNat 0))]),
  ([q4 0 0 0 0, q4 500 0 0 0], .t [q4 500 0 0 0, .s (.i .i64 (.ofNat 0))]),
  ([q4 0 0 0 0, q4 25 0 0 0], .t [q4 25 0 0 0, .s (.i .i64 (.ofNat 0))]),
  ([q4 500 0 0 0, q4 500 0 0 0], .t [q4 1000 0 0 0, .s (.i .i64 (.ofNat 0))]),
  ([q4 25 0 0 0, q4 25 0 0 0], .t [q4 50 0 0 0, .s (.i .i64 (.ofNat 0))]),
  ([q4 9000 0 0 0, q4 3000 0 0 0], .t [q4 12000 0 0 0, .s (.i .i64 (.ofNat 0))]),
  ([q4 240 0 0 0, q4 80 0 0 0], .t [q4 320 0 0 0, .s (.i .i64 (.ofNat 0))]),
  ([q4 12000 0 0 0, q4 3000 0 0 0], .t [q4 15000 0 0 0, .s (.i .i64 (.ofNat 0))]),
  ([q4 320 0 0 0, q4 80 0 0 0], .t [q4 400 0 0 0, .s (.i .i64 (.ofNat 0))]),
  ([q4 15000 0 0 0, q4 3000 0 0 0], .t [q4 18000 0 0 0, .s (.i .i64 (.ofNat 0))]),
  ([q4 400 0 0 0, q4 80 0 0 0], .t [q4 480 0 0 0, .s (.i .i64 (.ofNat 0))]),
  ([q4 0 0 0 0, q4 14 0 0 0], .t [q4 14 0 0 0, .s (.i .i64 (.ofNat 0))]),
  ([q4 0 0 0 0, q4 4 0 0 0], .t [q4 4 0 0 0, .s (.i .i64 (.ofNat 0))]),
  ([q4 0 0 0 0, q4 5 0 0 0], .t [q4 5 0 0 0, .s (.i .i64 (.ofNat 0))]),
  ([q4 5 0 0 0, q4 2 0 0 0], .t [q4 7 0 0 0, .s (.i .i64 (.ofNat 0))])]
theorem k5 : (keepV 34 e5).ok Tryz.prog := keepV_ok (k := 1000) (d := 30) mixed KT_ok XT_ok baseV_ok (by kernel_rfl)

/-- jointure/num.Bytes (713) -/
noncomputable def e6 : List (List AV × AV) := [
  ([q4 0 0 0 0], .s .sn)]
theorem k6 : (keepV 140 e6).ok Tryz.prog := keepV_ok (k := 1000) (d := 30) mixed KT_ok XT_ok baseV_ok (by kernel_rfl)

/-- jointure/coins.One (584) -/
noncomputable def e7 : List (List AV × AV) := [
  ([b1 1, q4 0 0 0 0], .s .sn),
  ([b1 3, q4 0 0 0 0], .s .sn),
  ([b1 4, q4 0 0 0 0], .s .sn),
  ([b1 5, q4 0 0 0 0], .s .sn),
  ([b1 6, q4 0 0 0 0], .s .sn),
  ([b1 7, q4 0 0 0 0], .s .sn),
  ([b1 0, q4 0 0 0 0], .s .sn),
  ([b1 2, q4 0 0 0 0], .s .sn)]
theorem k7 : (keepV 33 e7).ok Tryz.prog := keepV_ok (k := 1000) (d := 30) mixed KT_ok XT_ok baseV_ok (by kernel_rfl)

end Go.Proofs.YtljhbbgfpccchaaGreatDoor
