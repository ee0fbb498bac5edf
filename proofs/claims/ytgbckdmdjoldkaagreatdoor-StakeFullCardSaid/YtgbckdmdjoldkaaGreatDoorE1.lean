/-
  Bytes in lanes: bytealg.Compare and bytes.Equal.
-/
import Derived.Test.YtgbckdmdjoldkaaGreatDoorND
import Derived.Test.YtgbckdmdjoldkaaGreatDoorD10
set_option linter.unusedSimpArgs false
set_option linter.unusedVariables false
namespace Go.Proofs
open Go.Shelf
def Tryz.eqRen : Go.Shelf.Ren := ⟨fun | 115 => 154 | n => n, fun | 4 => 4 | 9 => 9 | 37 => 129 | 5 => 5 | n => n, fun n => n⟩
theorem Tryz.laysEq : Lays.n115 Tryz.prog Tryz.eqRen := {
  mixed := by kernel_rfl
  f115 := Tryz.func154.trans (congrArg some (by kernel_rfl))
  t4 := Tryz.underlying4
  a4 := Tryz.isAgg4
  z4 := Tryz.sizeOf4
  v4 := Tryz.zeroValue4
  t9 := Tryz.underlying9
  a9 := Tryz.isAgg9
  z9 := Tryz.sizeOf9
  v9 := Tryz.zeroValue9
  t37 := Tryz.underlying129
  a37 := Tryz.isAgg129
  z37 := Tryz.sizeOf129
  v37 := Tryz.zeroValue129 }
end Go.Proofs
namespace Go.Proofs.YtgbckdmdjoldkaaGreatDoor
open Go Go.RowKit Go.Bm
open Go.Am (Sc)
set_option maxRecDepth 100000

noncomputable def XW : Ext1 := laneX2 172 XT
theorem XW_ok : XW.valid Tryz.prog := laneX2_valid XT_ok fun args w => by
  rw [run_callFunc_extern Tryz.func172 (by kernel_rfl) (by kernel_rfl) (by kernel_rfl) (e := Extern.BytealgCompare.compare) (by kernel_rfl)]

theorem eqV_ok : (eqW 154).ok Tryz.prog := eqW_ok ⟨_, Tryz.func154, rfl, by show ("bytes.Equal" : String) ≠ "runtime.NumGoroutine"; decide⟩ fun v1 v2 xs ys w h1 h2 =>
  Any.bytes_Equal Tryz.laysEq v1 v2 xs ys w (h1 _ _ _ Tryz.underlying129 Tryz.underlying5 Tryz.underlying9) (h2 _ _ _ Tryz.underlying129 Tryz.underlying5 Tryz.underlying9)
end Go.Proofs.YtgbckdmdjoldkaaGreatDoor
