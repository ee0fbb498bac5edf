/-
  THE WALKS: GaugePoints.
-/
import Derived.Test.YtgbkilmgmnhokaaG18
set_option linter.unusedSimpArgs false
set_option linter.unusedVariables false
namespace Go.Am
open Go Go.Proofs Go.Fl

theorem pa24b (a0 a1 a2 a3 b0 b1 b2 b3 : Nat) : partAV Try.prog 24 [.s (.i .u64 a0), .s (.i .u64 a1), .s (.i .u64 a2), .s (.i .u64 a3), .s (.i .u64 b0), .s (.i .u64 b1), .s (.i .u64 b2), .s (.i .u64 b3)] 0 = some (.a [.s (.i .u64 a0), .s (.i .u64 a1), .s (.i .u64 a2), .s (.i .u64 a3)]) := by kernel_rfl
theorem fo480 : fieldO Try.prog 48 0 = some { name := "A", type := 24, offset := 0, embedded := false, tag := "", pkgPath := "", byteOffset := 0 } := by kernel_rfl
theorem fo481 : fieldO Try.prog 48 1 = some { name := "B", type := 24, offset := 4, embedded := false, tag := "", pkgPath := "", byteOffset := 32 } := by kernel_rfl
theorem sz24 : szO Try.prog 24 = some 4 := by kernel_rfl

theorem order_nr {N : Nat} (h : N < 2 ^ 256) : (Ieee.double.order (nr N) (nr N) == some .eq) = true := order_eq (nr_fin h).1 (nr_fin h).1 rfl

set_option maxRecDepth 8000 in
theorem points6 {xs ys : List AV} {N M : Nat} (hx : isNum xs N) (hy : isNum ys M) : ValidAt Try.prog 6 [.a xs, .a ys] [] [] (.s (.b true)) [] [] := by
  have f1 := hx.f13
  have f2 := hy.f13
  have f3 := hx.f17 hy
  have o1 := order_nr hx.lt
  have o2 := order_nr hy.lt
  have f4 := k16 (b := nr M) (d := nr M) o1
  obtain ⟨a0, a1, a2, a3, _, _, _, _, rfl, _⟩ := hx
  obtain ⟨b0, b1, b2, b3, _, _, _, _, rfl, _⟩ := hy
  generalize nr N = x at *
  generalize nr M = y at *
  refine valid_of_awp Try.func6 rfl (by simp [Try.ntmps6]) ?_
  refine XV_sound (esc := fun _ => false) orders hFG qFG _ _ _ ?_
  simp only [Try.ntmps6, ↓XV, isLoop, xOps, xStep, dOps, dRun, wild, yRun, yStep, yOp, cls, Am.dropL, aWant, xOp, xPure, rd, xCall, calleeAV, Option.bind_some, Option.bind_none, Option.map_some, Option.map_none, St.put, List.getD_cons_succ, List.getD_cons_zero, List.length_cons, List.length_nil, Array.toList, ofV, toV, ofC, List.set_cons_succ, List.set_cons_zero, List.cons_append, List.nil_append, List.append_nil, AV.cells?, newBox, St.setAt, boxCells, List.getElem?_cons_succ, List.getElem?_cons_zero, Nat.zero_add, Nat.add_zero, Option.any_some, Option.any_none, frame0, List.reduceReplicate, bin_i, bin_fl, bin_cadd, bin_csub, bin_cmul, bin_ceql, intBin, shiftBin, isShift, getB, strip, List.map_cons, List.map_nil, List.drop_zero, List.drop_succ_cons, AV.nrmL, AV.nrm, plainL, argCells, St.freezeIn, noRow, List.flatten_cons, List.flatten_nil, List.all_cons, List.all_nil, Option.getD_some, List.getElem?_toArray, Option.bind_fun_some, beq_true, beq_false, partsAV, xStoreOp, isOwn, isBox, xStore, setB, okScope, splice, AV.one, notW, AV.data, Nat.zero_le, decide_true, decide_false, Bool.false_or, Bool.true_or, idx, lenAV, finAV, resList, resOne, loadAV, single, AV.bel, AV.belL, List.take_zero, List.take_nil, List.take_succ_cons, Bool.false_eq_true, Bool.true_and, Bool.and_true, Bool.and_self, Bool.not_true, Bool.not_false, beq_self_eq_true, ↓reduceIte, reduceCtorEq, Nat.reduceLT, Nat.reduceAdd, Nat.reduceSub, Nat.reduceMul, Nat.reduceLeDiff, Nat.reducePow, Nat.reduceEqDiff, Nat.reduceBEq, Int.reduceLT, Int.reduceLE, Int.reduceGT, Int.reduceGE, Int.cast_ofNat_Int, Int.reduceBEq, Int.reduceSub, Int.reduceAdd, Int.reduceMul, Int.reduceToNat, Int.reduceEq, Int.reduceNeg, and_self, and_true, true_and, false_or, or_false, or_true, true_or, Bool.or_self, Bool.or_false, Bool.or_true, ne_eq, not_true_eq_false, not_false_eq_true, hb11, hb12, hb13, hb16, hb17, k11, f1, f2, f3, f4, f64, o1, o2, pa24, build35, show Try.f6.results.toList = [.tmp 4] from rfl]
  kernel_rfl

theorem run6 (avs : List AV) (h : ShArgs Try.prog 20 Try.f6.params.toList avs) : ValidAt Try.prog 6 avs [] [] (.s (.b true)) [] [] := by
  have e : Try.f6.params.toList = [24, 24] := rfl
  rw [e] at h
  obtain ⟨xs, _, rfl, h1, ys, _, rfl, h2, rfl⟩ := h
  obtain ⟨N, hN⟩ := sh24 h1
  obtain ⟨M, hM⟩ := sh24 h2
  rw [arg24, arg24]
  exact points6 hN hM

end Go.Am
