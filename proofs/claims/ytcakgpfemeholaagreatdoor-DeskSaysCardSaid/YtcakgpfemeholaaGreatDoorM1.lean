/-
  Results that are kept.
-/
import Derived.Test.YtcakgpfemeholaaGreatDoorD6
set_option linter.unusedSimpArgs false
set_option linter.unusedVariables false
namespace Go.Proofs.YtcakgpfemeholaaGreatDoor
open Go Go.RowKit Go.Bm
open Go.Am (Sc)
set_option maxRecDepth 100000

/-- jointure/num.sub (930) -/
noncomputable def e1 : List (List AV × AV) := [
  ([q4 0 0 0 0, q4 9 0 0 0], .t [q4 18446744073709551607 18446744073709551615 18446744073709551615 18446744073709551615, .s (.b true)]),
  ([q4 0 0 0 0, q4 0 0 0 0], .t [q4 0 0 0 0, .s (.b false)]),
  ([q4 9 0 0 0, q4 0 0 0 0], .t [q4 9 0 0 0, .s (.b false)]),
  ([q4 4 0 0 0, q4 0 0 0 0], .t [q4 4 0 0 0, .s (.b false)]),
  ([q4 4 0 0 0, q4 9 0 0 0], .t [q4 18446744073709551611 18446744073709551615 18446744073709551615 18446744073709551615, .s (.b true)]),
  ([q4 9 0 0 0, q4 4 0 0 0], .t [q4 5 0 0 0, .s (.b false)])]
theorem k1 : (keepV 312 e1).ok Tryz.prog := keepV_ok (k := 1000) (d := 30) mixed KT_ok XT_ok baseV_ok (by kernel_rfl)

/-- jointure/num.Sub (1056) -/
noncomputable def e2 : List (List AV × AV) := [
  ([q4 0 0 0 0, q4 9 0 0 0], .t [q4 0 0 0 0, .s (.i .i64 (.ofNat 3))]),
  ([q4 0 0 0 0, q4 0 0 0 0], .t [q4 0 0 0 0, .s (.i .i64 (.ofNat 0))]),
  ([q4 9 0 0 0, q4 0 0 0 0], .t [q4 9 0 0 0, .s (.i .i64 (.ofNat 0))]),
  ([q4 4 0 0 0, q4 0 0 0 0], .t [q4 4 0 0 0, .s (.i .i64 (.ofNat 0))]),
  ([q4 4 0 0 0, q4 9 0 0 0], .t [q4 0 0 0 0, .s (.i .i64 (.ofNat 3))]),
  ([q4 9 0 0 0, q4 4 0 0 0], .t [q4 5 0 0 0, .s (.i .i64 (.ofNat 0))])]
theorem k2 : (keepV 267 e2).ok Tryz.prog := keepV_ok (k := 1000) (d := 30) mixed KT_ok XT_ok baseV_ok (by kernel_rfl)

/-- jointure/num.Rest (1164) -/
noncomputable def e3 : List (List AV × AV) := [
  ([q4 0 0 0 0, q4 9 0 0 0], q4 0 0 0 0),
  ([q4 0 0 0 0, q4 0 0 0 0], q4 0 0 0 0),
  ([q4 9 0 0 0, q4 0 0 0 0], q4 9 0 0 0),
  ([q4 4 0 0 0, q4 0 0 0 0], q4 4 0 0 0),
  ([q4 4 0 0 0, q4 9 0 0 0], q4 0 0 0 0),
  ([q4 9 0 0 0, q4 4 0 0 0], q4 5 0 0 0)]
theorem k3 : (keepV 179 e3).ok Tryz.prog := keepV_ok (k := 1000) (d := 30) mixed KT_ok XT_ok baseV_ok (by kernel_rfl)

/-- jointure/num.Add (465) -/
noncomputable def e4 : List (List AV × AV) := [
  ([q4 0 0 0 0, q4 9 0 0 0], .t [q4 9 0 0 0, .s (.i .i64 (.ofNat 0))]),
  ([q4 0 0 0 0, q4 0 0 0 0], .t [q4 0 0 0 0, .s (.i .i64 (.ofNat 0))]),
  ([q4 0 0 0 0, q4 4 0 0 0], .t [q4 4 0 0 0, .s (.i .i64 (.ofNat 0))])]
theorem k4 : (keepV 59 e4).ok Tryz.prog := keepV_ok (k := 1000) (d := 30) mixed KT_ok XT_ok baseV_ok (by kernel_rfl)

/-- jointure/num.Bytes (713) -/
noncomputable def e5 : List (List AV × AV) := [
  ([q4 0 0 0 0], .s .sn)]
theorem k5 : (keepV 141 e5).ok Tryz.prog := keepV_ok (k := 1000) (d := 30) mixed KT_ok XT_ok baseV_ok (by kernel_rfl)

/-- jointure/coins.One (584) -/
noncomputable def e6 : List (List AV × AV) := [
  ([b1 0, q4 0 0 0 0], .s .sn),
  ([b1 1, q4 0 0 0 0], .s .sn),
  ([b1 2, q4 0 0 0 0], .s .sn),
  ([b1 3, q4 0 0 0 0], .s .sn),
  ([b1 4, q4 0 0 0 0], .s .sn),
  ([b1 5, q4 0 0 0 0], .s .sn),
  ([b1 6, q4 0 0 0 0], .s .sn),
  ([b1 7, q4 0 0 0 0], .s .sn)]
theorem k6 : (keepV 65 e6).ok Tryz.prog := keepV_ok (k := 1000) (d := 30) mixed KT_ok XT_ok baseV_ok (by kernel_rfl)

/-- jointure/num.Bytes (2160) -/
noncomputable def e7 : List (List AV × RowLit) := [
  ([q4 9 0 0 0], ⟨5, 0, 1, 1, 1, false, [b1 9]⟩),
  ([q4 4 0 0 0], ⟨5, 0, 1, 1, 1, false, [b1 4]⟩),
  ([q4 5 0 0 0], ⟨5, 0, 1, 1, 1, false, [b1 5]⟩)]
theorem k7 : (keepR 141 e7).ok Tryz.prog := keepR_ok (k := 1000) (d := 30) mixed KT_ok XT_ok baseV_ok (by kernel_rfl)

/-- jointure/coins.One (154) -/
noncomputable def e8 : List (List AV × RowLit) := [
  ([b1 0, q4 9 0 0 0], ⟨176, 0, 5, 1, 1, true, [b1 0, .s (.i .u64 (.ofNat 9)), .s (.i .u64 (.ofNat 0)), .s (.i .u64 (.ofNat 0)), .s (.i .u64 (.ofNat 0))]⟩),
  ([b1 0, q4 4 0 0 0], ⟨176, 0, 5, 1, 1, true, [b1 0, .s (.i .u64 (.ofNat 4)), .s (.i .u64 (.ofNat 0)), .s (.i .u64 (.ofNat 0)), .s (.i .u64 (.ofNat 0))]⟩)]
theorem k8 : (keepR 65 e8).ok Tryz.prog := keepR_ok (k := 1000) (d := 30) mixed KT_ok XT_ok baseV_ok (by kernel_rfl)

end Go.Proofs.YtcakgpfemeholaaGreatDoor
