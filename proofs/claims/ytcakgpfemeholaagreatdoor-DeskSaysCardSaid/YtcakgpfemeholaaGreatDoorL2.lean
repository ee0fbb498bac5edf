/-
  The desk's answer to line 2, on its part of the memory.
-/
import Derived.Test.YtcakgpfemeholaaGreatDoorL1
set_option linter.unusedSimpArgs false
set_option linter.unusedVariables false
namespace Go.Proofs.YtcakgpfemeholaaGreatDoor
open Go Go.RowKit Go.Bm
open Go.Am (Sc)
set_option maxRecDepth 100000
noncomputable def hL2 : List (Nat × Blk) := l0 ++ [
  (17, .row 44 [.s (.i .u64 (.ofNat 0)), .sl 98 0 8 1 1 false, .sl 178 0 2 1 1 false, .s .pn, .s .sn]),
  (98, .row 81 [b1 1, .sl 84 0 5 1 1 true, b1 0, .s (.i .u64 (.ofNat 0)), .s (.i .u64 (.ofNat 0)), .s .sn, .s .sn, b1 0]),
  (84, .row 176 [b1 0, .s (.i .u64 (.ofNat 9)), .s (.i .u64 (.ofNat 0)), .s (.i .u64 (.ofNat 0)), .s (.i .u64 (.ofNat 0))]),
  (178, .row 75 [b1 1, .s (.i .u16 (.ofNat 0))])]
noncomputable def hL2' : List (Nat × Blk) := l0 ++ [
  (17, .row 44 [.s (.i .u64 (.ofNat 0)), .sl 98 0 8 1 1 false, .sl 178 0 2 1 1 false, .p 235 0, .s .sn]),
  (98, .row 81 [b1 1, .sl 84 0 5 1 1 true, b1 0, .s (.i .u64 (.ofNat 0)), .s (.i .u64 (.ofNat 0)), .s .sn, .s .sn, b1 0]),
  (84, .row 176 [b1 0, .s (.i .u64 (.ofNat 9)), .s (.i .u64 (.ofNat 0)), .s (.i .u64 (.ofNat 0)), .s (.i .u64 (.ofNat 0))]),
  (178, .row 75 [b1 1, .s (.i .u16 (.ofNat 0))]),
  (235, .row 136 [.p 237 0, .s (.i .u64 (.ofNat 0))]),
  (237, .row 215 [.sl 1154 0 2 4 4 false, .s .sn, .s .sn]),
  (1154, .row 308 [.sl 472 0 1 2 2 false, .sl 474 0 1 31 31 false, .sl 821 0 1 3 3 false, .sl 823 0 1 1 1 false, .sl 688 0 1 2 2 false, .sl 690 0 1 1 1 false, .sl 1087 0 1 2 2 false, .sl 1089 0 1 8 8 false]),
  (472, .row 5 [b1 97, b1 1]),
  (474, .row 5 [b1 0, b1 0, b1 0, b1 0, b1 0, b1 0, b1 0, b1 0, b1 1, b1 0, b1 0, b1 0, b1 0, b1 0, b1 0, b1 0, b1 0, b1 0, b1 0, b1 0, b1 0, b1 0, b1 0, b1 0, b1 0, b1 0, b1 0, b1 0, b1 0, b1 0, b1 0]),
  (821, .row 5 [b1 98, b1 1, b1 0]),
  (823, .row 5 [b1 9]),
  (688, .row 5 [b1 115, b1 0]),
  (690, .row 5 [b1 9]),
  (1087, .row 5 [b1 118, b1 0]),
  (1089, .row 5 [b1 1, b1 0, b1 0, b1 0, b1 0, b1 0, b1 0, b1 0])]
theorem kL2 : (partV 10 [.p 17 0, .s (.str ⟨#[111, 112, 101, 110, 32, 48]⟩)] (.s (.str ⟨#[111, 107]⟩)) hL2 198 hL2' 1156).ok Tryz.prog := partV_ok (k := 1000) (d := 60) mixed KT_ok XD_ok deskV_ok (by kernel_rfl)
noncomputable def lineV2 : Kn := pickV 1024 (partV 10 [.p 17 0, .s (.str ⟨#[111, 112, 101, 110, 32, 48]⟩)] (.s (.str ⟨#[111, 107]⟩)) hL2 198 hL2' 1156) lineV1
theorem lineV2_ok : lineV2.ok Tryz.prog := pickV_ok kL2 lineV1_ok
end Go.Proofs.YtcakgpfemeholaaGreatDoor
