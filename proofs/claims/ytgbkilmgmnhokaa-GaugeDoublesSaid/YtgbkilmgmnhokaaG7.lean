/-
  THE WALKS: gauge.Float.
-/
import Derived.Test.YtgbkilmgmnhokaaG6
set_option linter.unusedSimpArgs false
set_option linter.unusedVariables false
namespace Go.Am
open Go Go.Proofs Go.Fl

theorem hb28 : hasBody Try.prog 28 = true := by kernel_rfl
theorem hb29 : hasBody Try.prog 29 = true := by kernel_rfl
theorem hb31 : hasBody Try.prog 31 = true := by kernel_rfl
theorem arr24 : arrO Try.prog 24 = some (4, 22) := by kernel_rfl

section
variable {F : Tab} (hF : F.valid Try.prog) (hq : Calm F (fun _ => true))
include hF hq

set_option maxRecDepth 4000 in
theorem ldexp31 (x y : Nat) (e : Int) (h38 : ∀ S O, F 38 [.s (.fl .f64 x), .s (.i .i64 e)] S O = some (.s (.fl .f64 y), S, O)) : ValidAt Try.prog 31 [.s (.fl .f64 x), .s (.i .i64 e)] [] [] (.s (.fl .f64 y)) [] [] := by
  refine valid_of_awp Try.func31 rfl (by simp [Try.ntmps31]) ?_
  refine XW_sound (esc := fun _ => false) orders hF hq _ _ _ ?_
  simp only [Try.ntmps31, ↓XW, xOps, xStep, dOps, dRun, wild, yRun, yStep, yOp, cls, Am.dropL, aWant, xOp, xPure, rd, xCall, calleeAV, Option.bind_some, Option.bind_none, Option.map_some, Option.map_none, St.put, List.getD_cons_succ, List.getD_cons_zero, List.length_cons, List.length_nil, Array.toList, ofV, toV, ofC, List.set_cons_succ, List.set_cons_zero, List.cons_append, List.nil_append, List.append_nil, AV.cells?, newBox, St.setAt, boxCells, List.getElem?_cons_succ, List.getElem?_cons_zero, Nat.zero_add, Nat.add_zero, Option.any_some, Option.any_none, frame0, List.reduceReplicate, bin_i, bin_fl, bin_cadd, bin_csub, bin_cmul, bin_ceql, intBin, shiftBin, isShift, getB, strip, List.map_cons, List.map_nil, List.drop_zero, List.drop_succ_cons, AV.nrmL, AV.nrm, plainL, argCells, St.freezeIn, noRow, List.flatten_cons, List.flatten_nil, List.all_cons, List.all_nil, Option.getD_some, List.getElem?_toArray, Option.bind_fun_some, beq_true, beq_false, partsAV, xStoreOp, isOwn, isBox, xStore, setB, okScope, splice, AV.one, notW, AV.data, Nat.zero_le, decide_true, decide_false, Bool.false_or, Bool.true_or, idx, lenAV, finAV, resList, resOne, loadAV, single, AV.bel, AV.belL, List.take_zero, List.take_nil, List.take_succ_cons, Bool.false_eq_true, Bool.true_and, Bool.and_true, Bool.and_self, Bool.not_true, Bool.not_false, beq_self_eq_true, reduceIte, reduceCtorEq, Nat.reduceLT, Nat.reduceAdd, Nat.reduceSub, Nat.reduceMul, Nat.reduceLeDiff, Nat.reducePow, Nat.reduceEqDiff, Nat.reduceBEq, Int.reduceLT, Int.reduceLE, Int.reduceToNat, Int.reduceEq, Int.reduceNeg, and_self, and_true, true_and, false_or, or_false, or_true, true_or, Bool.or_self, Bool.or_false, Bool.or_true, ne_eq, not_true_eq_false, not_false_eq_true, hb38, h38, show Try.f31.results.toList = [.tmp 4] from rfl]

/-- The loop that looks for the highest part. -/
def topOf (a1 a2 a3 : Int) : Nat := if (a3 == 0) = false then 3 else if (a2 == 0) = false then 2 else if (a1 == 0) = false then 1 else 0

set_option maxRecDepth 4000 in
theorem float12_low (a0 : Nat) (h0 : a0 < 2 ^ 64) : ValidAt Try.prog 12 [.a [.s (.i .u64 a0), .s (.i .u64 0), .s (.i .u64 0), .s (.i .u64 0)]] [] [] (.s (.fl .f64 (nr a0))) [] [] := by
  have hx : xBody Try.prog F (fun _ _ => false) (fun _ => true) 1000 12 [.a [.s (.i .u64 a0), .s (.i .u64 0), .s (.i .u64 0), .s (.i .u64 0)]] [] [] = some (.s (.fl .f64 (FloatKind.f64.nearest a0)), [], []) := by kernel_rfl
  have e : FloatKind.f64.nearest (a0 : Int) = nr a0 := by
    unfold FloatKind.nearest FloatKind.encode nr
    have : decide ((a0 : Int) < 0) = false := decide_eq_false (by omega)
    rw [this]; rfl
  rw [e] at hx
  exact xBody_valid orders hF hq hx
end
end Go.Am
