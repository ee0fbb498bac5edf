/-
  Results that are kept.
-/
import Derived.Test.YtikbjhoocpbpiaaGreatDoorD6
set_option linter.unusedSimpArgs false
set_option linter.unusedVariables false
namespace Go.Proofs.YtikbjhoocpbpiaaGreatDoor
open Go Go.RowKit Go.Bm
open Go.Am (Sc)
set_option maxRecDepth 100000

/-- jointure/num.sub (1240) -/
noncomputable def e1 : List (List AV × AV) := [
  ([q4 0 0 0 0, q4 5 0 0 0], .t [q4 18446744073709551611 18446744073709551615 18446744073709551615 18446744073709551615, .s (.b true)]),
  ([q4 0 0 0 0, q4 0 0 0 0], .t [q4 0 0 0 0, .s (.b false)]),
  ([q4 5 0 0 0, q4 0 0 0 0], .t [q4 5 0 0 0, .s (.b false)]),
  ([q4 1 0 0 0, q4 5 0 0 0], .t [q4 18446744073709551612 18446744073709551615 18446744073709551615 18446744073709551615, .s (.b true)]),
  ([q4 5 0 0 0, q4 1 0 0 0], .t [q4 4 0 0 0, .s (.b false)]),
  ([q4 4 0 0 0, q4 0 0 0 0], .t [q4 4 0 0 0, .s (.b false)]),
  ([q4 2 0 0 0, q4 4 0 0 0], .t [q4 18446744073709551614 18446744073709551615 18446744073709551615 18446744073709551615, .s (.b true)]),
  ([q4 4 0 0 0, q4 2 0 0 0], .t [q4 2 0 0 0, .s (.b false)])]
theorem k1 : (keepV 225 e1).ok Tryz.prog := keepV_ok (k := 1000) (d := 30) mixed KT_ok XT_ok baseV_ok (by kernel_rfl)

/-- jointure/num.Sub (1408) -/
noncomputable def e2 : List (List AV × AV) := [
  ([q4 0 0 0 0, q4 5 0 0 0], .t [q4 0 0 0 0, .s (.i .i64 (.ofNat 3))]),
  ([q4 0 0 0 0, q4 0 0 0 0], .t [q4 0 0 0 0, .s (.i .i64 (.ofNat 0))]),
  ([q4 5 0 0 0, q4 0 0 0 0], .t [q4 5 0 0 0, .s (.i .i64 (.ofNat 0))]),
  ([q4 1 0 0 0, q4 5 0 0 0], .t [q4 0 0 0 0, .s (.i .i64 (.ofNat 3))]),
  ([q4 5 0 0 0, q4 1 0 0 0], .t [q4 4 0 0 0, .s (.i .i64 (.ofNat 0))]),
  ([q4 4 0 0 0, q4 0 0 0 0], .t [q4 4 0 0 0, .s (.i .i64 (.ofNat 0))]),
  ([q4 2 0 0 0, q4 4 0 0 0], .t [q4 0 0 0 0, .s (.i .i64 (.ofNat 3))]),
  ([q4 4 0 0 0, q4 2 0 0 0], .t [q4 2 0 0 0, .s (.i .i64 (.ofNat 0))])]
theorem k2 : (keepV 173 e2).ok Tryz.prog := keepV_ok (k := 1000) (d := 30) mixed KT_ok XT_ok baseV_ok (by kernel_rfl)

/-- jointure/num.Rest (1552) -/
noncomputable def e3 : List (List AV × AV) := [
  ([q4 0 0 0 0, q4 5 0 0 0], q4 0 0 0 0),
  ([q4 0 0 0 0, q4 0 0 0 0], q4 0 0 0 0),
  ([q4 5 0 0 0, q4 0 0 0 0], q4 5 0 0 0),
  ([q4 1 0 0 0, q4 5 0 0 0], q4 0 0 0 0),
  ([q4 5 0 0 0, q4 1 0 0 0], q4 4 0 0 0),
  ([q4 4 0 0 0, q4 0 0 0 0], q4 4 0 0 0),
  ([q4 2 0 0 0, q4 4 0 0 0], q4 0 0 0 0),
  ([q4 4 0 0 0, q4 2 0 0 0], q4 2 0 0 0)]
theorem k3 : (keepV 113 e3).ok Tryz.prog := keepV_ok (k := 1000) (d := 30) mixed KT_ok XT_ok baseV_ok (by kernel_rfl)

/-- jointure/num.Add (930) -/
noncomputable def e4 : List (List AV × AV) := [
  ([q4 0 0 0 0, q4 5 0 0 0], .t [q4 5 0 0 0, .s (.i .i64 (.ofNat 0))]),
  ([q4 0 0 0 0, q4 0 0 0 0], .t [q4 0 0 0 0, .s (.i .i64 (.ofNat 0))]),
  ([q4 5 0 0 0, q4 5 0 0 0], .t [q4 10 0 0 0, .s (.i .i64 (.ofNat 0))]),
  ([q4 0 0 0 0, q4 1 0 0 0], .t [q4 1 0 0 0, .s (.i .i64 (.ofNat 0))]),
  ([q4 0 0 0 0, q4 2 0 0 0], .t [q4 2 0 0 0, .s (.i .i64 (.ofNat 0))]),
  ([q4 5 0 0 0, q4 2 0 0 0], .t [q4 7 0 0 0, .s (.i .i64 (.ofNat 0))])]
theorem k4 : (keepV 175 e4).ok Tryz.prog := keepV_ok (k := 1000) (d := 30) mixed KT_ok XT_ok baseV_ok (by kernel_rfl)

/-- jointure/num.Bytes (713) -/
noncomputable def e5 : List (List AV × AV) := [
  ([q4 0 0 0 0], .s .sn)]
theorem k5 : (keepV 230 e5).ok Tryz.prog := keepV_ok (k := 1000) (d := 30) mixed KT_ok XT_ok baseV_ok (by kernel_rfl)

/-- jointure/coins.One (584) -/
noncomputable def e6 : List (List AV × AV) := [
  ([b1 0, q4 0 0 0 0], .s .sn),
  ([b1 1, q4 0 0 0 0], .s .sn),
  ([b1 2, q4 0 0 0 0], .s .sn),
  ([b1 3, q4 0 0 0 0], .s .sn),
  ([b1 4, q4 0 0 0 0], .s .sn),
  ([b1 5, q4 0 0 0 0], .s .sn),
  ([b1 6, q4 0 0 0 0], .s .sn),
  ([b1 7, q4 0 0 0 0], .s .sn)]
theorem k6 : (keepV 169 e6).ok Tryz.prog := keepV_ok (k := 1000) (d := 30) mixed KT_ok XT_ok baseV_ok (by kernel_rfl)

/-- jointure/num.Bytes (4320) -/
noncomputable def e7 : List (List AV × RowLit) := [
  ([q4 5 0 0 0], ⟨5, 0, 1, 1, 1, false, [b1 5]⟩),
  ([q4 10 0 0 0], ⟨5, 0, 1, 1, 1, false, [b1 10]⟩),
  ([q4 4 0 0 0], ⟨5, 0, 1, 1, 1, false, [b1 4]⟩),
  ([q4 1 0 0 0], ⟨5, 0, 1, 1, 1, false, [b1 1]⟩),
  ([q4 2 0 0 0], ⟨5, 0, 1, 1, 1, false, [b1 2]⟩),
  ([q4 7 0 0 0], ⟨5, 0, 1, 1, 1, false, [b1 7]⟩)]
theorem k7 : (keepR 230 e7).ok Tryz.prog := keepR_ok (k := 1000) (d := 30) mixed KT_ok XT_ok baseV_ok (by kernel_rfl)

/-- jointure/coins.One (308) -/
noncomputable def e8 : List (List AV × RowLit) := [
  ([b1 0, q4 5 0 0 0], ⟨97, 0, 5, 1, 1, true, [b1 0, .s (.i .u64 (.ofNat 5)), .s (.i .u64 (.ofNat 0)), .s (.i .u64 (.ofNat 0)), .s (.i .u64 (.ofNat 0))]⟩),
  ([b1 0, q4 10 0 0 0], ⟨97, 0, 5, 1, 1, true, [b1 0, .s (.i .u64 (.ofNat 10)), .s (.i .u64 (.ofNat 0)), .s (.i .u64 (.ofNat 0)), .s (.i .u64 (.ofNat 0))]⟩),
  ([b1 0, q4 2 0 0 0], ⟨97, 0, 5, 1, 1, true, [b1 0, .s (.i .u64 (.ofNat 2)), .s (.i .u64 (.ofNat 0)), .s (.i .u64 (.ofNat 0)), .s (.i .u64 (.ofNat 0))]⟩),
  ([b1 0, q4 4 0 0 0], ⟨97, 0, 5, 1, 1, true, [b1 0, .s (.i .u64 (.ofNat 4)), .s (.i .u64 (.ofNat 0)), .s (.i .u64 (.ofNat 0)), .s (.i .u64 (.ofNat 0))]⟩)]
theorem k8 : (keepR 169 e8).ok Tryz.prog := keepR_ok (k := 1000) (d := 30) mixed KT_ok XT_ok baseV_ok (by kernel_rfl)

end Go.Proofs.YtikbjhoocpbpiaaGreatDoor
