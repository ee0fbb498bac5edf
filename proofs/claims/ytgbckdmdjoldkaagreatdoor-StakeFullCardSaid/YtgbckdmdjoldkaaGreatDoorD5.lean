/-
  The seat's tables for the machine.
-/
import Derived.Test.YtgbckdmdjoldkaaGreatDoorD4
import Derived.KernelRfl
set_option linter.unusedSimpArgs false
set_option linter.unusedVariables false
namespace Go.Proofs.YtgbckdmdjoldkaaGreatDoor
open Go Go.RowKit Go.Bm
open Go.Am (Sc)
set_option maxRecDepth 100000

noncomputable def fnOf (f : FuncId) : Option Func :=
  match Tryz.prog.funcs[f]? with
  | some x => some x
  | none => none

noncomputable def KT : Tbl := ⟨Tryz.prog.underlying, fun T => Am.szO Tryz.prog T, fun T => (Tryz.prog.info? T).map (·.bytes), fun T => Am.zeroO Tryz.prog T, fnOf⟩

theorem names_ok : Tryz.prog.funcs.all (fun x => Bool.not (x.name == "runtime.NumGoroutine")) = true := by kernel_rfl

theorem KT_ok : KT.ok Tryz.prog := by
  refine ⟨fun T d h => h, fun T n h => h, fun T n h => h, fun T z h => h, fun f x h => ?_⟩
  have h : fnOf f = some x := h
  unfold fnOf at h
  split at h
  rotate_left
  · cases h
  rename_i y hy
  injection h with h; subst h
  refine ⟨hy, fun e => ?_⟩
  have := (Array.all_eq_true.1 names_ok) f (Array.getElem?_eq_some_iff.1 hy).1
  rw [(Array.getElem?_eq_some_iff.1 hy).2] at this
  simp [e] at this

theorem mixed : Tryz.prog.follows .mixedOrders = true := by kernel_rfl

theorem found135 : (Extern.find Tryz.f135).isSome = true := by kernel_rfl
theorem found180 : (Extern.find Tryz.f180).isSome = true := by kernel_rfl
theorem run134 (x y : Nat) (w : World) : (((Extern.find Tryz.f135).get found135) #[.int .u64 x, .int .u64 y, .int .u64 ((0 : Nat) : Int)]).run Tryz.prog w =
    .ok (.tuple #[.int .u64 (((x + y + 0) % 18446744073709551616 : Nat) : Int), .int .u64 (((x + y + 0) / 18446744073709551616 : Nat) : Int)]) w := by kernel_rfl
theorem run134' (x y : Nat) (w : World) : (((Extern.find Tryz.f135).get found135) #[.int .u64 x, .int .u64 y, .int .u64 ((1 : Nat) : Int)]).run Tryz.prog w =
    .ok (.tuple #[.int .u64 (((x + y + 1) % 18446744073709551616 : Nat) : Int), .int .u64 (((x + y + 1) / 18446744073709551616 : Nat) : Int)]) w := by kernel_rfl
theorem run180 (x y : Nat) (w : World) : (((Extern.find Tryz.f180).get found180) #[.int .u64 x, .int .u64 y, .int .u64 ((0 : Nat) : Int)]).run Tryz.prog w =
    .ok (.tuple #[.int .u64 (((x + 18446744073709551616 - y - 0) % 18446744073709551616 : Nat) : Int), .int .u64 ((if x < y + 0 then 1 else 0 : Nat) : Int)]) w := by kernel_rfl
theorem run180' (x y : Nat) (w : World) : (((Extern.find Tryz.f180).get found180) #[.int .u64 x, .int .u64 y, .int .u64 ((1 : Nat) : Int)]).run Tryz.prog w =
    .ok (.tuple #[.int .u64 (((x + 18446744073709551616 - y - 1) % 18446744073709551616 : Nat) : Int), .int .u64 ((if x < y + 1 then 1 else 0 : Nat) : Int)]) w := by kernel_rfl

theorem stands : Stands Tryz.prog 135 180 172 178 106 4 180 2 := by
  refine ⟨fun x y c hc w => ?_, fun x y b hb w => ?_, fun args w => ?_, fun args w => ?_, by kernel_rfl, by kernel_rfl⟩
  · rw [run_callFunc_extern Tryz.func135 (by kernel_rfl) (by kernel_rfl) (by kernel_rfl) (Option.some_get found135).symm]
    have : c = 0 ∨ c = 1 := by omega
    rcases this with rfl | rfl
    · rw [run134]; rfl
    · rw [run134']; rfl
  · rw [run_callFunc_extern Tryz.func180 (by kernel_rfl) (by kernel_rfl) (by kernel_rfl) (Option.some_get found180).symm]
    have : b = 0 ∨ b = 1 := by omega
    rcases this with rfl | rfl
    · rw [run180]; rfl
    · rw [run180']; rfl
  · rw [run_callFunc_extern Tryz.func172 (by kernel_rfl) (by kernel_rfl) (by kernel_rfl) (e := Extern.BytealgCompare.compare) (by kernel_rfl)]
  · rw [run_callFunc_extern Tryz.func178 (by kernel_rfl) (by kernel_rfl) (by kernel_rfl) (e := Extern.SlicesOverlaps.overlaps #[106, 106] #[4]) (by kernel_rfl)]

noncomputable def XT : Ext1 := xExt 135 180 172 178
theorem XT_ok : XT.valid Tryz.prog := xExt_valid stands

/-- slices.Insert at []pair. -/
noncomputable def inV : Kn := fun f args H nx => bif Nat.beq f 167 then insV (yTab KT Tryz.prog XT crV 1000 10) f args H nx else none
theorem inV_ok : inV.ok Tryz.prog := by
  obtain ⟨h1, h2⟩ := yTab_valid (k := 1000) mixed KT_ok XT_ok crV_ok 10
  refine ⟨fun f args H nx r H' nx' hv => ?_, fun f args H nx r hv => ?_⟩
  · unfold inV at hv
    cases hb : Nat.beq f 167 with
    | true => rw [hb] at hv; exact insV_valid h1 hv
    | false => rw [hb] at hv; cases hv
  · unfold inV at hv
    cases hb : Nat.beq f 167 with
    | true => rw [hb] at hv; exact insV_bodied h2 hv
    | false => rw [hb] at hv; cases hv

noncomputable def baseV : Kn := orV crV inV
theorem baseV_ok : baseV.ok Tryz.prog := orV_ok crV_ok inV_ok
end Go.Proofs.YtgbckdmdjoldkaaGreatDoor
