/-
  The desk's answer to line 1, on its part of the memory.
-/
import Derived.Test.YtcakgpfemeholaaGreatDoorL0
set_option linter.unusedSimpArgs false
set_option linter.unusedVariables false
namespace Go.Proofs.YtcakgpfemeholaaGreatDoor
open Go Go.RowKit Go.Bm
open Go.Am (Sc)
set_option maxRecDepth 100000
noncomputable def hL1 : List (Nat × Blk) := l0 ++ [
  (17, .row 44 [.s (.i .u64 (.ofNat 0)), .sl 98 0 8 1 1 false, .s .sn, .s .pn, .s .sn]),
  (98, .row 81 [b1 1, .sl 84 0 5 1 1 true, b1 0, .s (.i .u64 (.ofNat 0)), .s (.i .u64 (.ofNat 0)), .s .sn, .s .sn, b1 0]),
  (84, .row 176 [b1 0, .s (.i .u64 (.ofNat 9)), .s (.i .u64 (.ofNat 0)), .s (.i .u64 (.ofNat 0)), .s (.i .u64 (.ofNat 0))])]
noncomputable def hL1' : List (Nat × Blk) := l0 ++ [
  (17, .row 44 [.s (.i .u64 (.ofNat 0)), .sl 98 0 8 1 1 false, .sl 178 0 2 1 1 false, .s .pn, .s .sn]),
  (98, .row 81 [b1 1, .sl 84 0 5 1 1 true, b1 0, .s (.i .u64 (.ofNat 0)), .s (.i .u64 (.ofNat 0)), .s .sn, .s .sn, b1 0]),
  (84, .row 176 [b1 0, .s (.i .u64 (.ofNat 9)), .s (.i .u64 (.ofNat 0)), .s (.i .u64 (.ofNat 0)), .s (.i .u64 (.ofNat 0))]),
  (178, .row 75 [b1 1, .s (.i .u16 (.ofNat 0))])]
theorem kL1 : (partV 10 [.p 17 0, .s (.str ⟨#[118, 97, 108, 105, 100, 97, 116, 111, 114, 32, 49, 32, 48]⟩)] (.s (.str ⟨#[111, 107]⟩)) hL1 118 hL1' 179).ok Tryz.prog := partV_ok (k := 1000) (d := 60) mixed KT_ok XD_ok deskV_ok (by kernel_rfl)
noncomputable def lineV1 : Kn := pickV 1024 (partV 10 [.p 17 0, .s (.str ⟨#[118, 97, 108, 105, 100, 97, 116, 111, 114, 32, 49, 32, 48]⟩)] (.s (.str ⟨#[111, 107]⟩)) hL1 118 hL1' 179) lineV0
theorem lineV1_ok : lineV1.ok Tryz.prog := pickV_ok kL1 lineV0_ok
end Go.Proofs.YtcakgpfemeholaaGreatDoor
