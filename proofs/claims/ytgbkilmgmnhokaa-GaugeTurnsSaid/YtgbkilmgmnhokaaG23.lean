/-
  THE WALKS: GaugeTurns.
-/
import Derived.Test.YtgbkilmgmnhokaaG19
import Derived.Test.YtgbkilmgmnhokaaAm27
set_option linter.unusedSimpArgs false
set_option linter.unusedVariables false
namespace Go.Am
open Go Go.Proofs Go.Fl

set_option maxRecDepth 8000 in
theorem turns8 {xs ys : List AV} {N M : Nat} (hx : isNum xs N) (hy : isNum ys M) (k : Int) : ValidAt Try.prog 8 [.a (xs ++ ys), .s (.i .i64 k)] [] [] (.s (.b true)) [] [] := by
  have f3 := hx.f17 hy
  have hx' := lowp_nr hx.lt
  have hy' := lowp_nr hy.lt
  obtain ⟨a0, a1, a2, a3, _, _, _, _, rfl, _⟩ := hx
  obtain ⟨b0, b1, b2, b3, _, _, _, _, rfl, _⟩ := hy
  generalize nr N = x at *
  generalize nr M = y at *
  have f1 := k21 hx'.1 hy'.1 k
  have f2 := k22 hx'.1 hy'.1 k
  have t1 := turnN_fin (kq k) hx'.1 hy'.1
  have t2 := turnR_fin (kq k) hx'.1 hy'.1
  have ts := turn_same (kq k) hx'.1 hy'.1
  have o1 := order_eq t2.1 t1.1 ts.1.symm
  have o2 := order_eq t2.2 t1.2 ts.2.symm
  have f4 := k16 (b := (turnR (kq k) x y).2) (d := (turnN (kq k) x y).2) o1
  have q4 : kq 4 = 0 := by decide
  have q3 : kq 3 = 3 := by decide
  have q1 : kq 1 = 1 := by decide
  have qm : kq (-1) = 3 := by decide
  have c4 := k21 hx'.1 hy'.1 4
  have c3 := k21 hx'.1 hy'.1 3
  have cm := k21 hx'.1 hy'.1 (-1)
  have t3 := turnN_fin 3 hx'.1 hy'.1
  have c1 := k21 t3.1 t3.2 1
  have e4 := turn_four hx'.1 hy'.1
  have t4 := turnN_fin 4 hx'.1 hy'.1
  rw [q4] at c4
  rw [q3] at c3
  rw [qm] at cm
  rw [q1] at c1
  have o5 := order_eq t4.1 hx'.1 e4.1
  have o6 := order_eq t4.2 hy'.1 e4.2
  have o7 := order_eq hx'.1 hx'.1 rfl
  have o8 := order_eq hy'.1 hy'.1 rfl
  have d1 : turnN 1 (turnN 3 x y).1 (turnN 3 x y).2 = turnN 4 x y := rfl
  have d0 : turnN 0 x y = (x, y) := rfl
  rw [d1] at c1
  rw [d0] at c4
  simp only at c4
  have g1 : ∀ a b, binAV Try.prog .eql 36 a b (.s (.cx .f64 x y)) (.s (.cx .f64 x y)) = some (.s (.b true)) := fun a b => by rw [bin_ceql]; simp only [f64, o7, o8, Bool.and_self]
  have g2 : ∀ a b, binAV Try.prog .eql 36 a b (.s (.cx .f64 (turnN 4 x y).1 (turnN 4 x y).2)) (.s (.cx .f64 x y)) = some (.s (.b true)) := fun a b => by rw [bin_ceql]; simp only [f64, o5, o6, Bool.and_self]
  rw [o2] at f4
  clear t1 t2 ts t3 e4 t4 hx' hy' d1 d0 q4 q3 q1 qm o1 o2 o5 o6 o7 o8
  generalize (turnN 4 x y).1 = z1 at *
  generalize (turnN 4 x y).2 = z2 at *
  generalize (turnN 3 x y).1 = v1 at *
  generalize (turnN 3 x y).2 = v2 at *
  generalize (turnN (kq k) x y).1 = t1 at *
  generalize (turnN (kq k) x y).2 = t2 at *
  generalize (turnR (kq k) x y).1 = r1 at *
  generalize (turnR (kq k) x y).2 = r2 at *
  refine valid_of_awp Try.func8 rfl (by simp [Try.ntmps8]) ?_
  simp only [Try.ntmps8, frame0, List.reduceReplicate, List.cons_append, List.nil_append, List.append_nil, List.length_cons, List.length_nil, Nat.reduceAdd, Nat.reduceSub, Nat.zero_add]
  refine AWP.seq ?_
  refine XV_sound (esc := fun _ => false) orders hFG qFG _ _ _ ?_
  simp only [↓XV, isLoop, xOps, xStep, dOps, dRun, wild, yRun, yStep, yOp, cls, Am.dropL, aWant, xOp, xPure, rd, xCall, calleeAV, Option.bind_some, Option.bind_none, Option.map_some, Option.map_none, St.put, List.getD_cons_succ, List.getD_cons_zero, List.length_cons, List.length_nil, Array.toList, ofV, toV, ofC, List.set_cons_succ, List.set_cons_zero, List.cons_append, List.nil_append, List.append_nil, AV.cells?, newBox, St.setAt, boxCells, List.getElem?_cons_succ, List.getElem?_cons_zero, Nat.zero_add, Nat.add_zero, Option.any_some, Option.any_none, frame0, List.reduceReplicate, bin_i, intBin, shiftBin, isShift, getB, strip, List.map_cons, List.map_nil, List.drop_zero, List.drop_succ_cons, AV.nrmL, AV.nrm, plainL, argCells, St.freezeIn, noRow, List.flatten_cons, List.flatten_nil, List.all_cons, List.all_nil, Option.getD_some, List.getElem?_toArray, Option.bind_fun_some, beq_true, beq_false, partsAV, xStoreOp, isOwn, isBox, xStore, setB, okScope, splice, AV.one, notW, AV.data, Nat.zero_le, decide_true, decide_false, Bool.false_or, Bool.true_or, idx, lenAV, finAV, resList, resOne, loadAV, single, AV.bel, AV.belL, List.take_zero, List.take_nil, List.take_succ_cons, Bool.false_eq_true, Bool.true_and, Bool.and_true, Bool.and_self, Bool.not_true, Bool.not_false, beq_self_eq_true, ↓reduceIte, reduceCtorEq, Nat.reduceLT, Nat.reduceAdd, Nat.reduceSub, Nat.reduceMul, Nat.reduceLeDiff, Nat.reducePow, Nat.reduceEqDiff, Nat.reduceBEq, Int.reduceLT, Int.reduceLE, Int.reduceGT, Int.reduceGE, Int.cast_ofNat_Int, Int.reduceBEq, Int.reduceSub, Int.reduceAdd, Int.reduceMul, Int.reduceToNat, Int.reduceEq, Int.reduceNeg, and_self, and_true, true_and, false_or, or_false, or_true, true_or, Bool.or_self, Bool.or_false, Bool.or_true, ne_eq, not_true_eq_false, not_false_eq_true, hb11, hb16, hb17, hb21, hb22, hb23, k11, k23, f1, f2, f3, f4, c4, c3, cm, c1, g1, g2, pa24, pa24b, fo480, fo481, sz24, build35]
  refine AWP.seq ?_
  refine XV_sound (esc := fun _ => false) orders hFG qFG _ _ _ ?_
  simp only [↓XV, isLoop, xOps, xStep, dOps, dRun, wild, yRun, yStep, yOp, cls, Am.dropL, aWant, xOp, xPure, rd, xCall, calleeAV, Option.bind_some, Option.bind_none, Option.map_some, Option.map_none, St.put, List.getD_cons_succ, List.getD_cons_zero, List.length_cons, List.length_nil, Array.toList, ofV, toV, ofC, List.set_cons_succ, List.set_cons_zero, List.cons_append, List.nil_append, List.append_nil, AV.cells?, newBox, St.setAt, boxCells, List.getElem?_cons_succ, List.getElem?_cons_zero, Nat.zero_add, Nat.add_zero, Option.any_some, Option.any_none, frame0, List.reduceReplicate, bin_i, intBin, shiftBin, isShift, getB, strip, List.map_cons, List.map_nil, List.drop_zero, List.drop_succ_cons, AV.nrmL, AV.nrm, plainL, argCells, St.freezeIn, noRow, List.flatten_cons, List.flatten_nil, List.all_cons, List.all_nil, Option.getD_some, List.getElem?_toArray, Option.bind_fun_some, beq_true, beq_false, partsAV, xStoreOp, isOwn, isBox, xStore, setB, okScope, splice, AV.one, notW, AV.data, Nat.zero_le, decide_true, decide_false, Bool.false_or, Bool.true_or, idx, lenAV, finAV, resList, resOne, loadAV, single, AV.bel, AV.belL, List.take_zero, List.take_nil, List.take_succ_cons, Bool.false_eq_true, Bool.true_and, Bool.and_true, Bool.and_self, Bool.not_true, Bool.not_false, beq_self_eq_true, ↓reduceIte, reduceCtorEq, Nat.reduceLT, Nat.reduceAdd, Nat.reduceSub, Nat.reduceMul, Nat.reduceLeDiff, Nat.reducePow, Nat.reduceEqDiff, Nat.reduceBEq, Int.reduceLT, Int.reduceLE, Int.reduceGT, Int.reduceGE, Int.cast_ofNat_Int, Int.reduceBEq, Int.reduceSub, Int.reduceAdd, Int.reduceMul, Int.reduceToNat, Int.reduceEq, Int.reduceNeg, and_self, and_true, true_and, false_or, or_false, or_true, true_or, Bool.or_self, Bool.or_false, Bool.or_true, ne_eq, not_true_eq_false, not_false_eq_true, hb11, hb16, hb17, hb21, hb22, hb23, k11, k23, f1, f2, f3, f4, c4, c3, cm, c1, g1, g2, pa24, pa24b, fo480, fo481, sz24, build35]
  refine AWP.seq ?_
  refine XV_sound (esc := fun _ => false) orders hFG qFG _ _ _ ?_
  simp only [↓XV, isLoop, xOps, xStep, dOps, dRun, wild, yRun, yStep, yOp, cls, Am.dropL, aWant, xOp, xPure, rd, xCall, calleeAV, Option.bind_some, Option.bind_none, Option.map_some, Option.map_none, St.put, List.getD_cons_succ, List.getD_cons_zero, List.length_cons, List.length_nil, Array.toList, ofV, toV, ofC, List.set_cons_succ, List.set_cons_zero, List.cons_append, List.nil_append, List.append_nil, AV.cells?, newBox, St.setAt, boxCells, List.getElem?_cons_succ, List.getElem?_cons_zero, Nat.zero_add, Nat.add_zero, Option.any_some, Option.any_none, frame0, List.reduceReplicate, bin_i, intBin, shiftBin, isShift, getB, strip, List.map_cons, List.map_nil, List.drop_zero, List.drop_succ_cons, AV.nrmL, AV.nrm, plainL, argCells, St.freezeIn, noRow, List.flatten_cons, List.flatten_nil, List.all_cons, List.all_nil, Option.getD_some, List.getElem?_toArray, Option.bind_fun_some, beq_true, beq_false, partsAV, xStoreOp, isOwn, isBox, xStore, setB, okScope, splice, AV.one, notW, AV.data, Nat.zero_le, decide_true, decide_false, Bool.false_or, Bool.true_or, idx, lenAV, finAV, resList, resOne, loadAV, single, AV.bel, AV.belL, List.take_zero, List.take_nil, List.take_succ_cons, Bool.false_eq_true, Bool.true_and, Bool.and_true, Bool.and_self, Bool.not_true, Bool.not_false, beq_self_eq_true, ↓reduceIte, reduceCtorEq, Nat.reduceLT, Nat.reduceAdd, Nat.reduceSub, Nat.reduceMul, Nat.reduceLeDiff, Nat.reducePow, Nat.reduceEqDiff, Nat.reduceBEq, Int.reduceLT, Int.reduceLE, Int.reduceGT, Int.reduceGE, Int.cast_ofNat_Int, Int.reduceBEq, Int.reduceSub, Int.reduceAdd, Int.reduceMul, Int.reduceToNat, Int.reduceEq, Int.reduceNeg, and_self, and_true, true_and, false_or, or_false, or_true, true_or, Bool.or_self, Bool.or_false, Bool.or_true, ne_eq, not_true_eq_false, not_false_eq_true, hb11, hb16, hb17, hb21, hb22, hb23, k11, k23, f1, f2, f3, f4, c4, c3, cm, c1, g1, g2, pa24, pa24b, fo480, fo481, sz24, build35]
  refine AWP.seq ?_
  refine XV_sound (esc := fun _ => false) orders hFG qFG _ _ _ ?_
  simp only [↓XV, isLoop, xOps, xStep, dOps, dRun, wild, yRun, yStep, yOp, cls, Am.dropL, aWant, xOp, xPure, rd, xCall, calleeAV, Option.bind_some, Option.bind_none, Option.map_some, Option.map_none, St.put, List.getD_cons_succ, List.getD_cons_zero, List.length_cons, List.length_nil, Array.toList, ofV, toV, ofC, List.set_cons_succ, List.set_cons_zero, List.cons_append, List.nil_append, List.append_nil, AV.cells?, newBox, St.setAt, boxCells, List.getElem?_cons_succ, List.getElem?_cons_zero, Nat.zero_add, Nat.add_zero, Option.any_some, Option.any_none, frame0, List.reduceReplicate, bin_i, intBin, shiftBin, isShift, getB, strip, List.map_cons, List.map_nil, List.drop_zero, List.drop_succ_cons, AV.nrmL, AV.nrm, plainL, argCells, St.freezeIn, noRow, List.flatten_cons, List.flatten_nil, List.all_cons, List.all_nil, Option.getD_some, List.getElem?_toArray, Option.bind_fun_some, beq_true, beq_false, partsAV, xStoreOp, isOwn, isBox, xStore, setB, okScope, splice, AV.one, notW, AV.data, Nat.zero_le, decide_true, decide_false, Bool.false_or, Bool.true_or, idx, lenAV, finAV, resList, resOne, loadAV, single, AV.bel, AV.belL, List.take_zero, List.take_nil, List.take_succ_cons, Bool.false_eq_true, Bool.true_and, Bool.and_true, Bool.and_self, Bool.not_true, Bool.not_false, beq_self_eq_true, ↓reduceIte, reduceCtorEq, Nat.reduceLT, Nat.reduceAdd, Nat.reduceSub, Nat.reduceMul, Nat.reduceLeDiff, Nat.reducePow, Nat.reduceEqDiff, Nat.reduceBEq, Int.reduceLT, Int.reduceLE, Int.reduceGT, Int.reduceGE, Int.cast_ofNat_Int, Int.reduceBEq, Int.reduceSub, Int.reduceAdd, Int.reduceMul, Int.reduceToNat, Int.reduceEq, Int.reduceNeg, and_self, and_true, true_and, false_or, or_false, or_true, true_or, Bool.or_self, Bool.or_false, Bool.or_true, ne_eq, not_true_eq_false, not_false_eq_true, hb11, hb16, hb17, hb21, hb22, hb23, k11, k23, f1, f2, f3, f4, c4, c3, cm, c1, g1, g2, pa24, pa24b, fo480, fo481, sz24, build35]
  refine AWP.seq ?_
  refine AWP.region hFG (fun _ => false) (st' := ?_) ?h ?hQ
  case h =>
    rw [List.toList_toArray]
    repeat (apply xo_step; focus (simp only [↓XV, isLoop, xOps, xStep, dOps, dRun, wild, yRun, yStep, yOp, cls, Am.dropL, aWant, xOp, xPure, rd, xCall, calleeAV, Option.bind_some, Option.bind_none, Option.map_some, Option.map_none, St.put, List.getD_cons_succ, List.getD_cons_zero, List.length_cons, List.length_nil, Array.toList, ofV, toV, ofC, List.set_cons_succ, List.set_cons_zero, List.cons_append, List.nil_append, List.append_nil, AV.cells?, newBox, St.setAt, boxCells, List.getElem?_cons_succ, List.getElem?_cons_zero, Nat.zero_add, Nat.add_zero, Option.any_some, Option.any_none, frame0, List.reduceReplicate, bin_i, intBin, shiftBin, isShift, getB, strip, List.map_cons, List.map_nil, List.drop_zero, List.drop_succ_cons, AV.nrmL, AV.nrm, plainL, argCells, St.freezeIn, noRow, List.flatten_cons, List.flatten_nil, List.all_cons, List.all_nil, Option.getD_some, List.getElem?_toArray, Option.bind_fun_some, beq_true, beq_false, partsAV, xStoreOp, isOwn, isBox, xStore, setB, okScope, splice, AV.one, notW, AV.data, Nat.zero_le, decide_true, decide_false, Bool.false_or, Bool.true_or, idx, lenAV, finAV, resList, resOne, loadAV, single, AV.bel, AV.belL, List.take_zero, List.take_nil, List.take_succ_cons, Bool.false_eq_true, Bool.true_and, Bool.and_true, Bool.and_self, Bool.not_true, Bool.not_false, beq_self_eq_true, ↓reduceIte, reduceCtorEq, Nat.reduceLT, Nat.reduceAdd, Nat.reduceSub, Nat.reduceMul, Nat.reduceLeDiff, Nat.reducePow, Nat.reduceEqDiff, Nat.reduceBEq, Int.reduceLT, Int.reduceLE, Int.reduceGT, Int.reduceGE, Int.cast_ofNat_Int, Int.reduceBEq, Int.reduceSub, Int.reduceAdd, Int.reduceMul, Int.reduceToNat, Int.reduceEq, Int.reduceNeg, and_self, and_true, true_and, false_or, or_false, or_true, true_or, Bool.or_self, Bool.or_false, Bool.or_true, ne_eq, not_true_eq_false, not_false_eq_true, hb11, hb16, hb17, hb21, hb22, hb23, k11, k23, f1, f2, f3, f4, c4, c3, cm, c1, g1, g2, pa24, pa24b, fo480, fo481, sz24, build35]; rfl))

    exact sx_nil
  case hQ =>
    refine AWP.ret ?_
    simp only [↓XV, isLoop, xOps, xStep, dOps, dRun, wild, yRun, yStep, yOp, cls, Am.dropL, aWant, xOp, xPure, rd, xCall, calleeAV, Option.bind_some, Option.bind_none, Option.map_some, Option.map_none, St.put, List.getD_cons_succ, List.getD_cons_zero, List.length_cons, List.length_nil, Array.toList, ofV, toV, ofC, List.set_cons_succ, List.set_cons_zero, List.cons_append, List.nil_append, List.append_nil, AV.cells?, newBox, St.setAt, boxCells, List.getElem?_cons_succ, List.getElem?_cons_zero, Nat.zero_add, Nat.add_zero, Option.any_some, Option.any_none, frame0, List.reduceReplicate, bin_i, intBin, shiftBin, isShift, getB, strip, List.map_cons, List.map_nil, List.drop_zero, List.drop_succ_cons, AV.nrmL, AV.nrm, plainL, argCells, St.freezeIn, noRow, List.flatten_cons, List.flatten_nil, List.all_cons, List.all_nil, Option.getD_some, List.getElem?_toArray, Option.bind_fun_some, beq_true, beq_false, partsAV, xStoreOp, isOwn, isBox, xStore, setB, okScope, splice, AV.one, notW, AV.data, Nat.zero_le, decide_true, decide_false, Bool.false_or, Bool.true_or, idx, lenAV, finAV, resList, resOne, loadAV, single, AV.bel, AV.belL, List.take_zero, List.take_nil, List.take_succ_cons, Bool.false_eq_true, Bool.true_and, Bool.and_true, Bool.and_self, Bool.not_true, Bool.not_false, beq_self_eq_true, ↓reduceIte, reduceCtorEq, Nat.reduceLT, Nat.reduceAdd, Nat.reduceSub, Nat.reduceMul, Nat.reduceLeDiff, Nat.reducePow, Nat.reduceEqDiff, Nat.reduceBEq, Int.reduceLT, Int.reduceLE, Int.reduceGT, Int.reduceGE, Int.cast_ofNat_Int, Int.reduceBEq, Int.reduceSub, Int.reduceAdd, Int.reduceMul, Int.reduceToNat, Int.reduceEq, Int.reduceNeg, and_self, and_true, true_and, false_or, or_false, or_true, true_or, Bool.or_self, Bool.or_false, Bool.or_true, ne_eq, not_true_eq_false, not_false_eq_true, show Try.f8.results.toList = [.tmp 4] from rfl]

theorem run8 (avs : List AV) (h : ShArgs Try.prog 20 Try.f8.params.toList avs) : ValidAt Try.prog 8 avs [] [] (.s (.b true)) [] [] := by
  have e : Try.f8.params.toList = [48, 3] := rfl
  rw [e] at h
  obtain ⟨xs, _, rfl, h1, ks, _, rfl, h2, rfl⟩ := h
  obtain ⟨x, y, N, M, rfl, hN, hM⟩ := sh48 h1
  obtain ⟨k, _, _, rfl⟩ := shi64 h2
  rw [arg48, arg3]
  exact turns8 hN hM k
end Go.Am
