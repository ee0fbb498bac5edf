/-
  Results that are kept: numbers
-/
import Derived.Test.YtlpjiknnfjnmbaaGreatDoorNC
import Derived.Test.YtlpjiknnfjnmbaaGreatDoorD5
set_option linter.unusedSimpArgs false
set_option linter.unusedVariables false
namespace Go.Proofs.YtlpjiknnfjnmbaaGreatDoor
open Go Go.RowKit Go.Bm
open Go.Am (Sc)
set_option maxRecDepth 100000

@[reducible] def q4 (a b c d : Nat) : AV := .a [.s (.i .u64 (.ofNat a)), .s (.i .u64 (.ofNat b)), .s (.i .u64 (.ofNat c)), .s (.i .u64 (.ofNat d))]
@[reducible] def b1 (a : Nat) : AV := .s (.i .u8 (.ofNat a))
noncomputable def l79 : List (List AV × AV) := [
  ([q4 0 0 0 0, q4 3000 0 0 0], .t [q4 3000 0 0 0, .s (.i .i64 (.ofNat 0))]),
  ([q4 0 0 0 0, q4 0 0 0 0], .t [q4 0 0 0 0, .s (.i .i64 (.ofNat 0))]),
  ([q4 0 0 0 0, q4 80 0 0 0], .t [q4 80 0 0 0, .s (.i .i64 (.ofNat 0))]),
  ([q4 3000 0 0 0, q4 3000 0 0 0], .t [q4 6000 0 0 0, .s (.i .i64 (.ofNat 0))]),
  ([q4 80 0 0 0, q4 80 0 0 0], .t [q4 160 0 0 0, .s (.i .i64 (.ofNat 0))]),
  ([q4 6000 0 0 0, q4 3000 0 0 0], .t [q4 9000 0 0 0, .s (.i .i64 (.ofNat 0))]),
  ([q4 160 0 0 0, q4 80 0 0 0], .t [q4 240 0 0 0, .s (.i .i64 (.ofNat 0))]),
  ([q4 0 0 0 0, q4 500 0 0 0], .t [q4 500 0 0 0, .s (.i .i64 (.ofNat 0))]),
  ([q4 0 0 0 0, q4 25 0 0 0], .t [q4 25 0 0 0, .s (.i .i64 (.ofNat 0))]),
  ([q4 500 0 0 0, q4 500 0 0 0], .t [q4 1000 0 0 0, .s (.i .i64 (.ofNat 0))]),
  ([q4 25 0 0 0, q4 25 0 0 0], .t [q4 50 0 0 0, .s (.i .i64 (.ofNat 0))]),
  ([q4 9000 0 0 0, q4 3000 0 0 0], .t [q4 12000 0 0 0, .s (.i .i64 (.ofNat 0))]),
  ([q4 240 0 0 0, q4 80 0 0 0], .t [q4 320 0 0 0, .s (.i .i64 (.ofNat 0))]),
  ([q4 12000 0 0 0, q4 3000 0 0 0], .t [q4 15000 0 0 0, .s (.i .i64 (.ofNat 0))]),
  ([q4 320 0 0 0, q4 80 0 0 0], .t [q4 400 0 0 0, .s (.i .i64 (.ofNat 0))]),
  ([q4 15000 0 0 0, q4 3000 0 0 0], .t [q4 18000 0 0 0, .s (.i .i64 (.ofNat 0))]),
  ([q4 400 0 0 0, q4 80 0 0 0], .t [q4 480 0 0 0, .s (.i .i64 (.ofNat 0))]),
  ([q4 0 0 0 0, q4 5 0 0 0], .t [q4 5 0 0 0, .s (.i .i64 (.ofNat 0))]),
  ([q4 0 0 0 0, q4 2 0 0 0], .t [q4 2 0 0 0, .s (.i .i64 (.ofNat 0))]),
  ([q4 2995 0 0 0, q4 2 0 0 0], .t [q4 2997 0 0 0, .s (.i .i64 (.ofNat 0))])]
theorem k79 : (keepV 79 l79).ok Tryz.prog := keepV_ok (k := 1000) (d := 20) mixed KT_ok XT_ok baseV_ok (by kernel_rfl)

noncomputable def l153 : List (List AV × AV) := [
  ([q4 0 0 0 0, q4 0 0 0 0], .t [q4 0 0 0 0, .s (.b false)]),
  ([q4 5 0 0 0, q4 0 0 0 0], .t [q4 5 0 0 0, .s (.b false)]),
  ([q4 5 0 0 0, q4 3000 0 0 0], .t [q4 18446744073709548621 18446744073709551615 18446744073709551615 18446744073709551615, .s (.b true)]),
  ([q4 0 0 0 0, q4 80 0 0 0], .t [q4 18446744073709551536 18446744073709551615 18446744073709551615 18446744073709551615, .s (.b true)]),
  ([q4 3000 0 0 0, q4 5 0 0 0], .t [q4 2995 0 0 0, .s (.b false)]),
  ([q4 5 0 0 0, q4 5 0 0 0], .t [q4 0 0 0 0, .s (.b false)]),
  ([q4 5 0 0 0, q4 2 0 0 0], .t [q4 3 0 0 0, .s (.b false)]),
  ([q4 2 0 0 0, q4 5 0 0 0], .t [q4 18446744073709551613 18446744073709551615 18446744073709551615 18446744073709551615, .s (.b true)]),
  ([q4 2 0 0 0, q4 2 0 0 0], .t [q4 0 0 0 0, .s (.b false)])]
theorem k153 : (keepV 153 l153).ok Tryz.prog := keepV_ok (k := 1000) (d := 20) mixed KT_ok XT_ok baseV_ok (by kernel_rfl)

noncomputable def l105 : List (List AV × AV) := [
  ([q4 0 0 0 0, q4 0 0 0 0], .t [q4 0 0 0 0, .s (.i .i64 (.ofNat 0))]),
  ([q4 5 0 0 0, q4 0 0 0 0], .t [q4 5 0 0 0, .s (.i .i64 (.ofNat 0))]),
  ([q4 5 0 0 0, q4 3000 0 0 0], .t [q4 0 0 0 0, .s (.i .i64 (.ofNat 3))]),
  ([q4 0 0 0 0, q4 80 0 0 0], .t [q4 0 0 0 0, .s (.i .i64 (.ofNat 3))]),
  ([q4 3000 0 0 0, q4 5 0 0 0], .t [q4 2995 0 0 0, .s (.i .i64 (.ofNat 0))]),
  ([q4 5 0 0 0, q4 2 0 0 0], .t [q4 3 0 0 0, .s (.i .i64 (.ofNat 0))]),
  ([q4 2 0 0 0, q4 5 0 0 0], .t [q4 0 0 0 0, .s (.i .i64 (.ofNat 3))]),
  ([q4 2 0 0 0, q4 2 0 0 0], .t [q4 0 0 0 0, .s (.i .i64 (.ofNat 0))])]
theorem k105 : (keepV 105 l105).ok Tryz.prog := keepV_ok (k := 1000) (d := 20) mixed KT_ok XT_ok baseV_ok (by kernel_rfl)

noncomputable def l53 : List (List AV × AV) := [
  ([q4 0 0 0 0, q4 0 0 0 0], q4 0 0 0 0),
  ([q4 5 0 0 0, q4 0 0 0 0], q4 5 0 0 0),
  ([q4 5 0 0 0, q4 3000 0 0 0], q4 0 0 0 0),
  ([q4 0 0 0 0, q4 80 0 0 0], q4 0 0 0 0),
  ([q4 3000 0 0 0, q4 5 0 0 0], q4 2995 0 0 0),
  ([q4 5 0 0 0, q4 2 0 0 0], q4 3 0 0 0),
  ([q4 2 0 0 0, q4 5 0 0 0], q4 0 0 0 0),
  ([q4 2 0 0 0, q4 2 0 0 0], q4 0 0 0 0)]
theorem k53 : (keepV 53 l53).ok Tryz.prog := keepV_ok (k := 1000) (d := 20) mixed KT_ok XT_ok baseV_ok (by kernel_rfl)

noncomputable def l45 : List (List AV × AV) := [
  ([b1 1, q4 0 0 0 0], .s .sn),
  ([b1 3, q4 0 0 0 0], .s .sn),
  ([b1 4, q4 0 0 0 0], .s .sn),
  ([b1 5, q4 0 0 0 0], .s .sn),
  ([b1 6, q4 0 0 0 0], .s .sn),
  ([b1 7, q4 0 0 0 0], .s .sn),
  ([b1 0, q4 0 0 0 0], .s .sn),
  ([b1 2, q4 0 0 0 0], .s .sn)]
theorem k45 : (keepV 45 l45).ok Tryz.prog := keepV_ok (k := 1000) (d := 20) mixed KT_ok XT_ok baseV_ok (by kernel_rfl)

noncomputable def l160 : List (List AV × AV) := [
  ([q4 0 0 0 0, q4 3000 0 0 0], .t [q4 3000 0 0 0, .s (.b true)]),
  ([q4 0 0 0 0, q4 0 0 0 0], .t [q4 0 0 0 0, .s (.b true)]),
  ([q4 0 0 0 0, q4 80 0 0 0], .t [q4 80 0 0 0, .s (.b true)]),
  ([q4 3000 0 0 0, q4 3000 0 0 0], .t [q4 6000 0 0 0, .s (.b true)]),
  ([q4 80 0 0 0, q4 80 0 0 0], .t [q4 160 0 0 0, .s (.b true)]),
  ([q4 6000 0 0 0, q4 3000 0 0 0], .t [q4 9000 0 0 0, .s (.b true)]),
  ([q4 160 0 0 0, q4 80 0 0 0], .t [q4 240 0 0 0, .s (.b true)]),
  ([q4 0 0 0 0, q4 500 0 0 0], .t [q4 500 0 0 0, .s (.b true)]),
  ([q4 0 0 0 0, q4 25 0 0 0], .t [q4 25 0 0 0, .s (.b true)]),
  ([q4 500 0 0 0, q4 500 0 0 0], .t [q4 1000 0 0 0, .s (.b true)]),
  ([q4 25 0 0 0, q4 25 0 0 0], .t [q4 50 0 0 0, .s (.b true)]),
  ([q4 9000 0 0 0, q4 3000 0 0 0], .t [q4 12000 0 0 0, .s (.b true)]),
  ([q4 240 0 0 0, q4 80 0 0 0], .t [q4 320 0 0 0, .s (.b true)]),
  ([q4 12000 0 0 0, q4 3000 0 0 0], .t [q4 15000 0 0 0, .s (.b true)]),
  ([q4 320 0 0 0, q4 80 0 0 0], .t [q4 400 0 0 0, .s (.b true)]),
  ([q4 15000 0 0 0, q4 3000 0 0 0], .t [q4 18000 0 0 0, .s (.b true)]),
  ([q4 400 0 0 0, q4 80 0 0 0], .t [q4 480 0 0 0, .s (.b true)])]
theorem k160 : (keepV 160 l160).ok Tryz.prog := keepV_ok (k := 1000) (d := 20) mixed KT_ok XT_ok baseV_ok (by kernel_rfl)

end Go.Proofs.YtlpjiknnfjnmbaaGreatDoor
