/-
  The desk's answer to line 0, on its part of the memory.
-/
import Derived.Test.YtcakgpfemeholaaGreatDoorE7
set_option linter.unusedSimpArgs false
set_option linter.unusedVariables false
namespace Go.Proofs.YtcakgpfemeholaaGreatDoor
open Go Go.RowKit Go.Bm
open Go.Am (Sc)
set_option maxRecDepth 100000
noncomputable def hL0 : List (Nat × Blk) := l0 ++ [
  (17, .row 44 [.s (.i .u64 (.ofNat 0)), .s .sn, .s .sn, .s .pn, .s .sn])]
noncomputable def hL0' : List (Nat × Blk) := l0 ++ [
  (17, .row 44 [.s (.i .u64 (.ofNat 0)), .sl 98 0 8 1 1 false, .s .sn, .s .pn, .s .sn]),
  (98, .row 81 [b1 1, .sl 84 0 5 1 1 true, b1 0, .s (.i .u64 (.ofNat 0)), .s (.i .u64 (.ofNat 0)), .s .sn, .s .sn, b1 0]),
  (84, .row 176 [b1 0, .s (.i .u64 (.ofNat 9)), .s (.i .u64 (.ofNat 0)), .s (.i .u64 (.ofNat 0)), .s (.i .u64 (.ofNat 0))])]
theorem kL0 : (partV 10 [.p 17 0, .s (.str ⟨#[97, 99, 99, 111, 117, 110, 116, 32, 49, 32, 57]⟩)] (.s (.str ⟨#[111, 107]⟩)) hL0 39 hL0' 99).ok Tryz.prog := partV_ok (k := 1000) (d := 60) mixed KT_ok XD_ok deskV_ok (by kernel_rfl)
noncomputable def lineV0 : Kn := pickV 1024 (partV 10 [.p 17 0, .s (.str ⟨#[97, 99, 99, 111, 117, 110, 116, 32, 49, 32, 57]⟩)] (.s (.str ⟨#[111, 107]⟩)) hL0 39 hL0' 99) deskV
theorem lineV0_ok : lineV0.ok Tryz.prog := pickV_ok kL0 deskV_ok
end Go.Proofs.YtcakgpfemeholaaGreatDoor
