/-
  The desk's answer to line 4, on its part of the memory.
-/
import Derived.Test.YtcakgpfemeholaaGreatDoorL3
set_option linter.unusedSimpArgs false
set_option linter.unusedVariables false
namespace Go.Proofs.YtcakgpfemeholaaGreatDoor
open Go Go.RowKit Go.Bm
open Go.Am (Sc)
set_option maxRecDepth 100000
noncomputable def hL4 : List (Nat × Blk) := l0 ++ [
  (17, .row 44 [.s (.i .u64 (.ofNat 0)), .sl 98 0 8 1 1 false, .sl 178 0 2 1 1 false, .p 235 0, .s .sn]),
  (98, .row 81 [b1 1, .sl 84 0 5 1 1 true, b1 0, .s (.i .u64 (.ofNat 0)), .s (.i .u64 (.ofNat 0)), .s .sn, .s .sn, b1 0]),
  (84, .row 176 [b1 0, .s (.i .u64 (.ofNat 9)), .s (.i .u64 (.ofNat 0)), .s (.i .u64 (.ofNat 0)), .s (.i .u64 (.ofNat 0))]),
  (178, .row 75 [b1 1, .s (.i .u16 (.ofNat 0))]),
  (235, .row 136 [.p 237 0, .s (.i .u64 (.ofNat 0))]),
  (237, .row 215 [.sl 4869 0 2 6 6 false, .s .sn, .sl 3336 0 1 0 2 false]),
  (4869, .row 308 [.sl 4196 0 1 2 2 false, .sl 4198 0 1 32 32 false, .sl 4627 0 1 3 3 false, .sl 4629 0 1 1 1 false, .sl 4802 0 1 3 3 false, .sl 4804 0 1 1 1 false, .sl 3841 0 1 3 3 false, .sl 3843 0 1 3 3 false, .sl 688 0 1 2 2 false, .sl 690 0 1 1 1 false, .sl 3664 0 1 2 2 false, .sl 3666 0 1 10 10 false]),
  (4196, .row 5 [b1 97, b1 1]),
  (4198, .row 5 [b1 0, b1 0, b1 0, b1 0, b1 0, b1 0, b1 0, b1 1, b1 1, b1 0, b1 0, b1 1, b1 4, b1 0, b1 0, b1 0, b1 0, b1 0, b1 0, b1 0, b1 0, b1 0, b1 0, b1 0, b1 0, b1 0, b1 0, b1 0, b1 0, b1 0, b1 0, b1 0]),
  (4627, .row 5 [b1 98, b1 1, b1 0]),
  (4629, .row 5 [b1 5]),
  (4802, .row 5 [b1 98, b1 200, b1 0]),
  (4804, .row 5 [b1 4]),
  (3841, .row 5 [b1 100, b1 1, b1 0]),
  (3843, .row 5 [b1 1, b1 4, b1 0]),
  (688, .row 5 [b1 115, b1 0]),
  (690, .row 5 [b1 9]),
  (3664, .row 5 [b1 118, b1 0]),
  (3666, .row 5 [b1 1, b1 0, b1 0, b1 0, b1 1, b1 4, b1 1, b1 4, b1 0, b1 0]),
  (3336, .row 3 [.s (.i .i64 (.ofNat 0)), .s (.i .i64 (.ofNat 0))])]
noncomputable def hL4' : List (Nat × Blk) := l0 ++ [
  (17, .row 44 [.s (.i .u64 (.ofNat 0)), .sl 98 0 8 1 1 false, .sl 178 0 2 1 1 false, .p 235 0, .s .sn]),
  (98, .row 81 [b1 1, .sl 84 0 5 1 1 true, b1 0, .s (.i .u64 (.ofNat 0)), .s (.i .u64 (.ofNat 0)), .s .sn, .s .sn, b1 0]),
  (84, .row 176 [b1 0, .s (.i .u64 (.ofNat 9)), .s (.i .u64 (.ofNat 0)), .s (.i .u64 (.ofNat 0)), .s (.i .u64 (.ofNat 0))]),
  (178, .row 75 [b1 1, .s (.i .u16 (.ofNat 0))]),
  (235, .row 136 [.p 237 0, .s (.i .u64 (.ofNat 0))]),
  (237, .row 215 [.sl 4869 0 2 6 6 false, .s .sn, .sl 3336 0 1 0 2 false]),
  (4869, .row 308 [.sl 4196 0 1 2 2 false, .sl 4198 0 1 32 32 false, .sl 4627 0 1 3 3 false, .sl 4629 0 1 1 1 false, .sl 4802 0 1 3 3 false, .sl 4804 0 1 1 1 false, .sl 3841 0 1 3 3 false, .sl 3843 0 1 3 3 false, .sl 688 0 1 2 2 false, .sl 690 0 1 1 1 false, .sl 3664 0 1 2 2 false, .sl 3666 0 1 10 10 false]),
  (4196, .row 5 [b1 97, b1 1]),
  (4198, .row 5 [b1 0, b1 0, b1 0, b1 0, b1 0, b1 0, b1 0, b1 1, b1 1, b1 0, b1 0, b1 1, b1 4, b1 0, b1 0, b1 0, b1 0, b1 0, b1 0, b1 0, b1 0, b1 0, b1 0, b1 0, b1 0, b1 0, b1 0, b1 0, b1 0, b1 0, b1 0, b1 0]),
  (4627, .row 5 [b1 98, b1 1, b1 0]),
  (4629, .row 5 [b1 5]),
  (4802, .row 5 [b1 98, b1 200, b1 0]),
  (4804, .row 5 [b1 4]),
  (3841, .row 5 [b1 100, b1 1, b1 0]),
  (3843, .row 5 [b1 1, b1 4, b1 0]),
  (688, .row 5 [b1 115, b1 0]),
  (690, .row 5 [b1 9]),
  (3664, .row 5 [b1 118, b1 0]),
  (3666, .row 5 [b1 1, b1 0, b1 0, b1 0, b1 1, b1 4, b1 1, b1 4, b1 0, b1 0]),
  (3336, .row 3 [.s (.i .i64 (.ofNat 0)), .s (.i .i64 (.ofNat 0))])]
theorem kL4 : (partV 10 [.p 17 0, .s (.str ⟨#[98, 97, 108, 97, 110, 99, 101, 32, 49]⟩)] (.s (.str ⟨#[53]⟩)) hL4 4902 hL4' 5973).ok Tryz.prog := partV_ok (k := 1000) (d := 60) mixed KT_ok XD_ok deskV_ok (by kernel_rfl)
noncomputable def lineV4 : Kn := pickV 1024 (partV 10 [.p 17 0, .s (.str ⟨#[98, 97, 108, 97, 110, 99, 101, 32, 49]⟩)] (.s (.str ⟨#[53]⟩)) hL4 4902 hL4' 5973) lineV3
theorem lineV4_ok : lineV4.ok Tryz.prog := pickV_ok kL4 lineV3_ok
end Go.Proofs.YtcakgpfemeholaaGreatDoor
