/-
  desk.Run over the example's five lines: each step comes out.
-/
import Derived.Test.YtcakgpfemeholaaGreatDoorL4
set_option linter.unusedSimpArgs false
set_option linter.unusedVariables false
namespace Go.Proofs.YtcakgpfemeholaaGreatDoor
open Go Go.RowKit Go.Bm
open Go.Am (Sc)
set_option maxRecDepth 100000

/-- The lines that are left over. -/
noncomputable def LV : Kn := lineV4
theorem LV_ok : LV.ok Tryz.prog := lineV4_ok
theorem FD_ok : (FD LV).valid Tryz.prog ∧ (FD LV).bodied Tryz.prog := yTab_valid mixed KT_ok XD_ok LV_ok (k := 1000) 60
noncomputable def rvE : St := ga1 LV (lv LV 5)
noncomputable def ru5 : St := { ru4 LV with H := rvE.H, nx := rvE.nx }
noncomputable def ru6 : St := outO (soR LV ro6 ro6.toList ru5) ru0

noncomputable def wantL (s : St) : Bool := (match aWant lq6 (opAt (lq6.toList.drop 2)) (ga4 LV s).env with | some b => b | none => false) && isYl (ru4 LV).nx (rd (ga4 LV s).env (.tmp 21))
noncomputable def lineOK (s : St) : Bool := isN (ccL LV lA s) && isN (ccL LV lB (ga1 LV s)) && isN (ccL LV lC (ga2 LV s)) && (soL LV lq6 (lq6.toList.take 2) (ga3 LV s)).isSome && (soR LV ro4 ro4.toList (gb0 LV s)).isSome && (dRun KT Tryz.prog XD (FD LV) 19 ro5 (gb1 LV s).flush).isSome &&
  (soL LV lq6 (lq6.toList.drop 3) ⟨putE 25 (ga4 LV s).env (opAt (lq6.toList.drop 2)).dst (.s (.b true)), (gb2 LV s).H, (gb2 LV s).nx, []⟩).isSome && isN (ccL LV lD (ga5 LV s).flush) && dfs (ga3 LV s) && dfs (gb1 LV s) && dfs (gb2 LV s) && wantL s

theorem r0 : isN (ccR LV rA0 ru0) = true := by kernel_rfl
theorem r1 : isN (ccR LV rA1 (ru1 LV)) = true := by kernel_rfl
theorem r2 : isN (ccR LV rA2 (ru2 LV)) = true := by kernel_rfl
theorem r3 : isN (ccR LV rA3 (ru3 LV)) = true := by kernel_rfl
theorem r4 : rd (ru4 LV).env (.tmp 9) = .f 20 [] [.p (lbx LV) 0] := by kernel_rfl
theorem r5 : (ru4 LV).H.at (ru4 LV).nx = .dead := by kernel_rfl
theorem r6 : dfs (ru4 LV) = true := by kernel_rfl
theorem n0 : lineOK (lv LV 0) = true := by kernel_rfl
theorem n1 : lineOK (lv LV 1) = true := by kernel_rfl
theorem n2 : lineOK (lv LV 2) = true := by kernel_rfl
theorem n3 : lineOK (lv LV 3) = true := by kernel_rfl
theorem n4 : lineOK (lv LV 4) = true := by kernel_rfl
theorem nE : ccL LV lA (lv LV 5) = some (.exit 0, rvE) := by kernel_rfl
theorem r7 : (soR LV ro6 ro6.toList ru5).isSome = true := by kernel_rfl
theorem r8 : resList KT ru6.flush.H ru6.flush.env Tryz.f7.results.toList = some [.sl 5973 0 1 5 5 false] := by kernel_rfl
theorem r9 : dfs ru6 = true := by kernel_rfl
/-- What it leaves: the answers. -/
noncomputable def l1 : List (Nat × Blk) := l0 ++ [(5973, .row 9 [.s (.str ⟨#[111, 107]⟩), .s (.str ⟨#[111, 107]⟩), .s (.str ⟨#[111, 107]⟩), .s (.str ⟨#[111, 107]⟩), .s (.str ⟨#[53]⟩)])]
theorem r10 : tells l1 ru6.flush.H = true := by kernel_rfl
theorem r11 : partOK 16 (.sl 5973 0 1 5 5 false) l0 l1 = true := by kernel_rfl
theorem r12 : Nat.beq ru6.flush.nx 5974 = true := by kernel_rfl
theorem lq_split : lq6.toList = lq6.toList.take 2 ++ opAt (lq6.toList.drop 2) :: lq6.toList.drop 3 := by kernel_rfl
theorem lq_o : (opAt (lq6.toList.drop 2)).op = .call { callee := .value (.tmp 21), args := #[.tmp 22], argTypes := #[9] } := by kernel_rfl
theorem lq_nd : noDefer lq6.toList = true := by kernel_rfl
theorem ro4_nd : noDefer ro4.toList = true := by kernel_rfl
theorem ro5_nd : noDefer ro5.toList = true := by kernel_rfl
theorem ro6_nd : noDefer ro6.toList = true := by kernel_rfl
end Go.Proofs.YtcakgpfemeholaaGreatDoor
