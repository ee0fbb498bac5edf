/-
  THE WALKS: functions that take floats and complex numbers.
-/
import Derived.Test.YtgbkilmgmnhokaaMB
import Derived.Test.YtgbkilmgmnhokaaMF
import Derived.Test.YtgbkilmgmnhokaaProg
set_option linter.unusedSimpArgs false
set_option linter.unusedVariables false
namespace Go.Am
open Go Go.Proofs Go.Fl

theorem orders : Try.prog.follows .mixedOrders = true := by kernel_rfl
theorem f64 : FloatKind.format .f64 = Ieee.double := rfl
theorem sz26 : szO Try.prog 26 = some 1 := by kernel_rfl
theorem sz35 : szO Try.prog 35 = some 2 := by kernel_rfl
theorem sz36 : szO Try.prog 36 = some 1 := by kernel_rfl
theorem ag26 : aggO Try.prog 26 = false := by kernel_rfl
theorem ag35 : aggO Try.prog 35 = true := by kernel_rfl
theorem ag36 : aggO Try.prog 36 = false := by kernel_rfl
theorem zero35 : zeroO Try.prog 35 = some [.float .f64 0, .float .f64 0] := by kernel_rfl
theorem build35 (x y : Sc) : buildAV Try.prog 35 [(0, .s x), (1, .s y)] = some (.a [.s x, .s y]) := by kernel_rfl
theorem fo350 : fieldO Try.prog 35 0 = some { name := "X", type := 26, offset := 0, embedded := false, tag := "", pkgPath := "", byteOffset := 0 } := by kernel_rfl
theorem fo351 : fieldO Try.prog 35 1 = some { name := "Y", type := 26, offset := 1, embedded := false, tag := "", pkgPath := "", byteOffset := 8 } := by kernel_rfl

section
variable {F : Tab} (hF : F.valid Try.prog) (hq : Calm F (fun _ => true)) {S O : List Blk}
include hF hq

set_option maxRecDepth 4000 in
theorem apart24 {a b c d x y xx yy r : Nat} (h1 : Ieee.double.sub a c = some x) (h2 : Ieee.double.sub b d = some y) (h3 : Ieee.double.mul x x = some xx) (h4 : Ieee.double.mul y y = some yy) (h5 : Ieee.double.add xx yy = some r) :
    ValidAt Try.prog 24 [.s (.cx .f64 a b), .s (.cx .f64 c d)] [] [] (.s (.fl .f64 r)) [] [] := by
  refine valid_of_awp Try.func24 rfl (by simp [Try.ntmps24]) ?_
  refine XW_sound (esc := fun _ => false) orders hF hq _ _ _ ?_
  simp only [Try.ntmps24, ↓XW, xOps, xStep, dOps, dRun, wild, yRun, yStep, yOp, cls, Am.dropL, aWant, xOp, xPure, rd, xCall, calleeAV, Option.bind_some, Option.bind_none, Option.map_some, Option.map_none, St.put, List.getD_cons_succ, List.getD_cons_zero, List.length_cons, List.length_nil, Array.toList, ofV, toV, ofC, List.set_cons_succ, List.set_cons_zero, List.cons_append, List.nil_append, List.append_nil, AV.cells?, newBox, St.setAt, boxCells, List.getElem?_cons_succ, List.getElem?_cons_zero, Nat.zero_add, Nat.add_zero, Option.any_some, Option.any_none, frame0, List.reduceReplicate, bin_i, bin_fl, bin_cadd, bin_csub, bin_cmul, bin_ceql, intBin, shiftBin, isShift, getB, strip, List.map_cons, List.map_nil, List.drop_zero, List.drop_succ_cons, AV.nrmL, AV.nrm, plainL, argCells, St.freezeIn, noRow, List.flatten_cons, List.flatten_nil, List.all_cons, List.all_nil, Option.getD_some, List.getElem?_toArray, Option.bind_fun_some, beq_true, beq_false, partsAV, xStoreOp, isOwn, isBox, xStore, setB, okScope, splice, AV.one, notW, AV.data, Nat.zero_le, decide_true, decide_false, Bool.false_or, Bool.true_or, idx, lenAV, finAV, resList, resOne, loadAV, single, AV.bel, AV.belL, List.take_zero, List.take_nil, List.take_succ_cons, Bool.false_eq_true, Bool.true_and, Bool.and_true, Bool.and_self, Bool.not_true, Bool.not_false, beq_self_eq_true, reduceIte, reduceCtorEq, Nat.reduceLT, Nat.reduceAdd, Nat.reduceSub, Nat.reduceMul, Nat.reduceLeDiff, Nat.reducePow, Nat.reduceEqDiff, Nat.reduceBEq, Int.reduceLT, Int.reduceLE, Int.reduceToNat, Int.reduceEq, Int.reduceNeg, and_self, and_true, true_and, false_or, or_false, or_true, true_or, Bool.or_self, Bool.or_false, Bool.or_true, ne_eq, not_true_eq_false, not_false_eq_true, f64, h1, h2, h3, h4, h5, show Try.f24.results.toList = [.tmp 4] from rfl]

set_option maxRecDepth 4000 in
theorem apart25 {a b c d x y xx yy r : Nat} (h1 : Ieee.double.sub a c = some x) (h2 : Ieee.double.sub b d = some y) (h3 : Ieee.double.mul x x = some xx) (h4 : Ieee.double.mul y y = some yy) (h5 : Ieee.double.add xx yy = some r) :
    ValidAt Try.prog 25 [.a [.s (.fl .f64 a), .s (.fl .f64 b)], .a [.s (.fl .f64 c), .s (.fl .f64 d)]] [] [] (.s (.fl .f64 r)) [] [] := by
  refine valid_of_awp Try.func25 rfl (by simp [Try.ntmps25]) ?_
  refine XW_sound (esc := fun _ => false) orders hF hq _ _ _ ?_
  simp only [Try.ntmps25, ↓XW, xOps, xStep, dOps, dRun, wild, yRun, yStep, yOp, cls, Am.dropL, aWant, xOp, xPure, rd, xCall, calleeAV, Option.bind_some, Option.bind_none, Option.map_some, Option.map_none, St.put, List.getD_cons_succ, List.getD_cons_zero, List.length_cons, List.length_nil, Array.toList, ofV, toV, ofC, List.set_cons_succ, List.set_cons_zero, List.cons_append, List.nil_append, List.append_nil, AV.cells?, newBox, St.setAt, boxCells, List.getElem?_cons_succ, List.getElem?_cons_zero, Nat.zero_add, Nat.add_zero, Option.any_some, Option.any_none, frame0, List.reduceReplicate, bin_i, bin_fl, bin_cadd, bin_csub, bin_cmul, bin_ceql, intBin, shiftBin, isShift, getB, strip, List.map_cons, List.map_nil, List.drop_zero, List.drop_succ_cons, AV.nrmL, AV.nrm, plainL, argCells, St.freezeIn, noRow, List.flatten_cons, List.flatten_nil, List.all_cons, List.all_nil, Option.getD_some, List.getElem?_toArray, Option.bind_fun_some, beq_true, beq_false, partsAV, xStoreOp, isOwn, isBox, xStore, setB, okScope, splice, AV.one, notW, AV.data, Nat.zero_le, decide_true, decide_false, Bool.false_or, Bool.true_or, idx, lenAV, finAV, resList, resOne, loadAV, single, AV.bel, AV.belL, List.take_zero, List.take_nil, List.take_succ_cons, Bool.false_eq_true, Bool.true_and, Bool.and_true, Bool.and_self, Bool.not_true, Bool.not_false, beq_self_eq_true, reduceIte, reduceCtorEq, Nat.reduceLT, Nat.reduceAdd, Nat.reduceSub, Nat.reduceMul, Nat.reduceLeDiff, Nat.reducePow, Nat.reduceEqDiff, Nat.reduceBEq, Int.reduceLT, Int.reduceLE, Int.reduceToNat, Int.reduceEq, Int.reduceNeg, and_self, and_true, true_and, false_or, or_false, or_true, true_or, Bool.or_self, Bool.or_false, Bool.or_true, ne_eq, not_true_eq_false, not_false_eq_true, f64, h1, h2, h3, h4, h5, sz26, sz35, ag26, ag35, fo350, fo351, partAV, show Try.f25.results.toList = [.tmp 4] from rfl]
  kernel_rfl

set_option maxRecDepth 4000 in
theorem of23 (a b : Nat) : ValidAt Try.prog 23 [.s (.cx .f64 a b)] [] [] (.a [.s (.fl .f64 a), .s (.fl .f64 b)]) [] [] := by
  refine valid_of_awp Try.func23 rfl (by simp [Try.ntmps23]) ?_
  refine XW_sound (esc := fun _ => false) orders hF hq _ _ _ ?_
  simp only [Try.ntmps23, ↓XW, xOps, xStep, dOps, dRun, wild, yRun, yStep, yOp, cls, Am.dropL, aWant, xOp, xPure, rd, xCall, calleeAV, Option.bind_some, Option.bind_none, Option.map_some, Option.map_none, St.put, List.getD_cons_succ, List.getD_cons_zero, List.length_cons, List.length_nil, Array.toList, ofV, toV, ofC, List.set_cons_succ, List.set_cons_zero, List.cons_append, List.nil_append, List.append_nil, AV.cells?, newBox, St.setAt, boxCells, List.getElem?_cons_succ, List.getElem?_cons_zero, Nat.zero_add, Nat.add_zero, Option.any_some, Option.any_none, frame0, List.reduceReplicate, bin_i, bin_fl, bin_cadd, bin_csub, bin_cmul, bin_ceql, intBin, shiftBin, isShift, getB, strip, List.map_cons, List.map_nil, List.drop_zero, List.drop_succ_cons, AV.nrmL, AV.nrm, plainL, argCells, St.freezeIn, noRow, List.flatten_cons, List.flatten_nil, List.all_cons, List.all_nil, Option.getD_some, List.getElem?_toArray, Option.bind_fun_some, beq_true, beq_false, partsAV, xStoreOp, isOwn, isBox, xStore, setB, okScope, splice, AV.one, notW, AV.data, Nat.zero_le, decide_true, decide_false, Bool.false_or, Bool.true_or, idx, lenAV, finAV, resList, resOne, loadAV, single, AV.bel, AV.belL, List.take_zero, List.take_nil, List.take_succ_cons, Bool.false_eq_true, Bool.true_and, Bool.and_true, Bool.and_self, Bool.not_true, Bool.not_false, beq_self_eq_true, reduceIte, reduceCtorEq, Nat.reduceLT, Nat.reduceAdd, Nat.reduceSub, Nat.reduceMul, Nat.reduceLeDiff, Nat.reducePow, Nat.reduceEqDiff, Nat.reduceBEq, Int.reduceLT, Int.reduceLE, Int.reduceToNat, Int.reduceEq, Int.reduceNeg, and_self, and_true, true_and, false_or, or_false, or_true, true_or, Bool.or_self, Bool.or_false, Bool.or_true, ne_eq, not_true_eq_false, not_false_eq_true, zero35, build35, f64, sz26, sz35, ag26, ag35, fo350, fo351, partAV, show Try.f23.results.toList = [.cell 2 35] from rfl]

set_option maxRecDepth 4000 in
theorem same16 (a b c d : Nat) (h1 : (Ieee.double.order a c == some .eq) = true) : ValidAt Try.prog 16 [.a [.s (.fl .f64 a), .s (.fl .f64 b)], .s (.cx .f64 c d)] [] [] (.s (.b (Ieee.double.order b d == some .eq))) [] [] := by
  refine valid_of_awp Try.func16 rfl (by simp [Try.ntmps16]) ?_
  refine XW_sound (esc := fun _ => false) orders hF hq _ _ _ ?_
  simp only [Try.ntmps16, ↓XW, xOps, xStep, dOps, dRun, wild, yRun, yStep, yOp, cls, Am.dropL, aWant, xOp, xPure, rd, xCall, calleeAV, Option.bind_some, Option.bind_none, Option.map_some, Option.map_none, St.put, List.getD_cons_succ, List.getD_cons_zero, List.length_cons, List.length_nil, Array.toList, ofV, toV, ofC, List.set_cons_succ, List.set_cons_zero, List.cons_append, List.nil_append, List.append_nil, AV.cells?, newBox, St.setAt, boxCells, List.getElem?_cons_succ, List.getElem?_cons_zero, Nat.zero_add, Nat.add_zero, Option.any_some, Option.any_none, frame0, List.reduceReplicate, bin_i, bin_fl, bin_cadd, bin_csub, bin_cmul, bin_ceql, intBin, shiftBin, isShift, getB, strip, List.map_cons, List.map_nil, List.drop_zero, List.drop_succ_cons, AV.nrmL, AV.nrm, plainL, argCells, St.freezeIn, noRow, List.flatten_cons, List.flatten_nil, List.all_cons, List.all_nil, Option.getD_some, List.getElem?_toArray, Option.bind_fun_some, beq_true, beq_false, partsAV, xStoreOp, isOwn, isBox, xStore, setB, okScope, splice, AV.one, notW, AV.data, Nat.zero_le, decide_true, decide_false, Bool.false_or, Bool.true_or, idx, lenAV, finAV, resList, resOne, loadAV, single, AV.bel, AV.belL, List.take_zero, List.take_nil, List.take_succ_cons, Bool.false_eq_true, Bool.true_and, Bool.and_true, Bool.and_self, Bool.not_true, Bool.not_false, beq_self_eq_true, reduceIte, reduceCtorEq, Nat.reduceLT, Nat.reduceAdd, Nat.reduceSub, Nat.reduceMul, Nat.reduceLeDiff, Nat.reducePow, Nat.reduceEqDiff, Nat.reduceBEq, Int.reduceLT, Int.reduceLE, Int.reduceToNat, Int.reduceEq, Int.reduceNeg, and_self, and_true, true_and, false_or, or_false, or_true, true_or, Bool.or_self, Bool.or_false, Bool.or_true, ne_eq, not_true_eq_false, not_false_eq_true, f64, h1, sz26, sz35, ag26, ag35, fo350, fo351, partAV, show Try.f16.results.toList = [.tmp 4] from rfl]
end
end Go.Am
