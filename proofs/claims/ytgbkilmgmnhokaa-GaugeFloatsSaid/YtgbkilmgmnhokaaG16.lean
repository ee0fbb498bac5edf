/-
  THE WALKS: GaugeFloats.
-/
import Derived.Test.YtgbkilmgmnhokaaG15
set_option linter.unusedSimpArgs false
set_option linter.unusedVariables false
namespace Go.Am
open Go Go.Proofs Go.Fl

theorem order_self {x : Nat} (h : x < 2047 * 2 ^ 52) : (Ieee.double.order x x == some .eq) = true := by
  rw [order_words h h, ncmp_eq]; rfl

set_option maxRecDepth 8000 in
theorem floats3 {xs : List AV} {N : Nat} (h : isNum xs N) : ValidAt Try.prog 3 [.a xs] [] [] (.s (.b true)) [] [] := by
  have f12 := h.f12
  have f13 := h.f13
  have hlt : nr N < 1300 * 2 ^ 52 := (nr_fin h.lt).2.1
  have ho := order_self (x := nr N) (by omega)
  obtain ⟨a0, a1, a2, a3, _, _, _, _, rfl, _⟩ := h
  generalize nr N = y at *
  refine valid_of_awp Try.func3 rfl (by simp [Try.ntmps3]) ?_
  refine XV_sound (esc := fun _ => false) orders hFG qFG _ _ _ ?_
  simp only [Try.ntmps3, ↓XV, isLoop, xOps, xStep, dOps, dRun, wild, yRun, yStep, yOp, cls, Am.dropL, aWant, xOp, xPure, rd, xCall, calleeAV, Option.bind_some, Option.bind_none, Option.map_some, Option.map_none, St.put, List.getD_cons_succ, List.getD_cons_zero, List.length_cons, List.length_nil, Array.toList, ofV, toV, ofC, List.set_cons_succ, List.set_cons_zero, List.cons_append, List.nil_append, List.append_nil, AV.cells?, newBox, St.setAt, boxCells, List.getElem?_cons_succ, List.getElem?_cons_zero, Nat.zero_add, Nat.add_zero, Option.any_some, Option.any_none, frame0, List.reduceReplicate, bin_i, bin_fl, bin_cadd, bin_csub, bin_cmul, bin_ceql, intBin, shiftBin, isShift, getB, strip, List.map_cons, List.map_nil, List.drop_zero, List.drop_succ_cons, AV.nrmL, AV.nrm, plainL, argCells, St.freezeIn, noRow, List.flatten_cons, List.flatten_nil, List.all_cons, List.all_nil, Option.getD_some, List.getElem?_toArray, Option.bind_fun_some, beq_true, beq_false, partsAV, xStoreOp, isOwn, isBox, xStore, setB, okScope, splice, AV.one, notW, AV.data, Nat.zero_le, decide_true, decide_false, Bool.false_or, Bool.true_or, idx, lenAV, finAV, resList, resOne, loadAV, single, AV.bel, AV.belL, List.take_zero, List.take_nil, List.take_succ_cons, Bool.false_eq_true, Bool.true_and, Bool.and_true, Bool.and_self, Bool.not_true, Bool.not_false, beq_self_eq_true, ↓reduceIte, reduceCtorEq, Nat.reduceLT, Nat.reduceAdd, Nat.reduceSub, Nat.reduceMul, Nat.reduceLeDiff, Nat.reducePow, Nat.reduceEqDiff, Nat.reduceBEq, Int.reduceLT, Int.reduceLE, Int.reduceGT, Int.reduceGE, Int.cast_ofNat_Int, Int.reduceBEq, Int.reduceSub, Int.reduceAdd, Int.reduceMul, Int.reduceToNat, Int.reduceEq, Int.reduceNeg, and_self, and_true, true_and, false_or, or_false, or_true, true_or, Bool.or_self, Bool.or_false, Bool.or_true, ne_eq, not_true_eq_false, not_false_eq_true, hb11, hb12, hb13, k11, f12, f13, pa24, f64, ho, show Try.f3.results.toList = [.tmp 2] from rfl]
  kernel_rfl

theorem run3 (avs : List AV) (h : ShArgs Try.prog 20 Try.f3.params.toList avs) : ValidAt Try.prog 3 avs [] [] (.s (.b true)) [] [] := by
  have e : Try.f3.params.toList = [24] := rfl
  rw [e] at h
  obtain ⟨xs, rest, rfl, h1, rfl⟩ := h
  obtain ⟨N, hN⟩ := sh24 h1
  rw [arg24]
  exact floats3 hN
end Go.Am
