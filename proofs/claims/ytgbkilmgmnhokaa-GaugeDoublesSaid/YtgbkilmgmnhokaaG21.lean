/-
  THE WALKS: which number is the greater one.
-/
import Derived.Test.YtgbkilmgmnhokaaG18
import Derived.Test.YtgbkilmgmnhokaaMF
set_option linter.unusedSimpArgs false
set_option linter.unusedVariables false
namespace Go.Am
open Go Go.Proofs Go.Fl

theorem isNum.f32 {xs : List AV} {N : Nat} (h : isNum xs N) (S O : List Blk) : FG 32 [.a xs] S O = some (.l 16 (D16 N), S, O) := by
  obtain ⟨a0, a1, a2, a3, h0, h1, h2, h3, rfl, rfl⟩ := h
  exact k32 h0 h1 h2 h3 S O

theorem dg_step (N k : Nat) : N / 2 ^ (16 * k) = 65536 * (N / 2 ^ (16 * (k + 1))) + dg16 N k := by
  unfold dg16
  rw [show 16 * (k + 1) = 16 * k + 16 by omega, Nat.pow_add, ← Nat.div_div_eq_div_mul]
  omega

theorem dg_lt {N M k : Nat} (h : N / 2 ^ (16 * (k + 1)) = M / 2 ^ (16 * (k + 1))) (hd : dg16 N k < dg16 M k) : N < M := by
  have h1 := dg_step N k
  have h2 := dg_step M k
  rw [h] at h1
  have h3 : N / 2 ^ (16 * k) < M / 2 ^ (16 * k) := by omega
  rcases Nat.lt_or_ge N M with h | h
  · exact h
  · have := Nat.div_le_div_right (c := 2 ^ (16 * k)) h; omega

set_option maxRecDepth 8000 in
theorem cmp14 {xs ys : List AV} {N M : Nat} (hx : isNum xs N) (hy : isNum ys M) : ValidAt Try.prog 14 [.a xs, .a ys] [] [] (.s (.i .i64 (cmpv N M))) [] [] := by
  have f1 := hx.f32
  have f2 := hy.f32
  have hN := hx.lt
  have hM := hy.lt
  obtain ⟨a0, a1, a2, a3, _, _, _, _, rfl, _⟩ := hx
  obtain ⟨b0, b1, b2, b3, _, _, _, _, rfl, _⟩ := hy
  have l1 := D16_ld N
  have l2 := D16_ld M
  generalize D16 N = D at *
  generalize D16 M = E at *
  refine valid_of_awp Try.func14 rfl (by simp [Try.ntmps14]) ?_
  refine XV_sound (esc := fun _ => false) orders hFG qFG _ _ _ ?_
  simp only [Try.ntmps14, ↓XV, isLoop, xOps, xStep, dOps, dRun, wild, yRun, yStep, yOp, cls, Am.dropL, aWant, xOp, xPure, rd, xCall, calleeAV, Option.bind_some, Option.bind_none, Option.map_some, Option.map_none, St.put, List.getD_cons_succ, List.getD_cons_zero, List.length_cons, List.length_nil, Array.toList, ofV, toV, ofC, List.set_cons_succ, List.set_cons_zero, List.cons_append, List.nil_append, List.append_nil, AV.cells?, newBox, St.setAt, boxCells, List.getElem?_cons_succ, List.getElem?_cons_zero, Nat.zero_add, Nat.add_zero, Option.any_some, Option.any_none, frame0, List.reduceReplicate, bin_i, bin_fl, bin_cadd, bin_csub, bin_cmul, bin_ceql, intBin, shiftBin, isShift, getB, strip, List.map_cons, List.map_nil, List.drop_zero, List.drop_succ_cons, AV.nrmL, AV.nrm, plainL, argCells, St.freezeIn, noRow, List.flatten_cons, List.flatten_nil, List.all_cons, List.all_nil, Option.getD_some, List.getElem?_toArray, Option.bind_fun_some, beq_true, beq_false, partsAV, xStoreOp, isOwn, isBox, xStore, setB, okScope, splice, AV.one, notW, AV.data, Nat.zero_le, decide_true, decide_false, Bool.false_or, Bool.true_or, idx, lenAV, finAV, resList, resOne, loadAV, single, AV.bel, AV.belL, List.take_zero, List.take_nil, List.take_succ_cons, Bool.false_eq_true, Bool.true_and, Bool.and_true, Bool.and_self, Bool.not_true, Bool.not_false, beq_self_eq_true, ↓reduceIte, reduceCtorEq, Nat.reduceLT, Nat.reduceAdd, Nat.reduceSub, Nat.reduceMul, Nat.reduceLeDiff, Nat.reducePow, Nat.reduceEqDiff, Nat.reduceBEq, Int.reduceLT, Int.reduceLE, Int.reduceGT, Int.reduceGE, Int.cast_ofNat_Int, Int.reduceBEq, Int.reduceSub, Int.reduceAdd, Int.reduceMul, Int.reduceToNat, Int.reduceEq, Int.reduceNeg, and_self, and_true, true_and, false_or, or_false, or_true, true_or, Bool.or_self, Bool.or_false, Bool.or_true, ne_eq, not_true_eq_false, not_false_eq_true, hb32, f1, f2, pa24, show Try.f14.results.toList = [.tmp 4] from rfl]
  refine ⟨by kernel_rfl, ?_⟩
  refine AWP.loopK [true, true, true, true, true, true, true, true] (fun k st => st = ⟨[.a [.s (.i .u64 a0), .s (.i .u64 a1), .s (.i .u64 a2), .s (.i .u64 a3)], .a [.s (.i .u64 b0), .s (.i .u64 b1), .s (.i .u64 b2), .s (.i .u64 b3)], .p (.s 2) 0, .p (.s 3) 0, .s (.i .i64 0), .l 16 D, .l 16 E, .s (.i .i64 ((k : Int) - 1))] ++ List.replicate 26 .u,
      [.dead, .dead, .box 24 [.s (.i .u64 a0), .s (.i .u64 a1), .s (.i .u64 a2), .s (.i .u64 a3)], .box 24 [.s (.i .u64 b0), .s (.i .u64 b1), .s (.i .u64 b2), .s (.i .u64 b3)]] ++ List.replicate 30 .dead, []⟩ ∧ k ≤ 16 ∧ N / 2 ^ (16 * k) = M / 2 ^ (16 * k)) 16 ?_ ?_
  · refine ⟨rfl, by omega, ?_⟩
    rw [Nat.div_eq_of_lt hN, Nat.div_eq_of_lt hM]
  rintro k st ⟨rfl, hk, he⟩
  cases k with
  | zero =>
    have hd : decide (((0 : Nat) : Int) - 1 ≥ 0) = false := rfl
    have hv : cmpv N M = 0 := by
      rw [Nat.mul_zero, Nat.pow_zero, Nat.div_one, Nat.div_one] at he
      unfold cmpv; rw [if_neg (by omega), if_neg (by omega)]
    refine XV_sound (esc := fun _ => false) orders hFG qFG _ _ _ ?_
    simp only [↓XV, isLoop, xOps, xStep, dOps, dRun, wild, yRun, yStep, yOp, cls, Am.dropL, aWant, xOp, xPure, rd, xCall, calleeAV, Option.bind_some, Option.bind_none, Option.map_some, Option.map_none, St.put, List.getD_cons_succ, List.getD_cons_zero, List.length_cons, List.length_nil, Array.toList, ofV, toV, ofC, List.set_cons_succ, List.set_cons_zero, List.cons_append, List.nil_append, List.append_nil, AV.cells?, newBox, St.setAt, boxCells, List.getElem?_cons_succ, List.getElem?_cons_zero, Nat.zero_add, Nat.add_zero, Option.any_some, Option.any_none, frame0, List.reduceReplicate, bin_i, bin_fl, bin_cadd, bin_csub, bin_cmul, bin_ceql, intBin, shiftBin, isShift, getB, strip, List.map_cons, List.map_nil, List.drop_zero, List.drop_succ_cons, AV.nrmL, AV.nrm, plainL, argCells, St.freezeIn, noRow, List.flatten_cons, List.flatten_nil, List.all_cons, List.all_nil, Option.getD_some, List.getElem?_toArray, Option.bind_fun_some, beq_true, beq_false, partsAV, xStoreOp, isOwn, isBox, xStore, setB, okScope, splice, AV.one, notW, AV.data, Nat.zero_le, decide_true, decide_false, Bool.false_or, Bool.true_or, idx, lenAV, finAV, resList, resOne, loadAV, single, AV.bel, AV.belL, List.take_zero, List.take_nil, List.take_succ_cons, Bool.false_eq_true, Bool.true_and, Bool.and_true, Bool.and_self, Bool.not_true, Bool.not_false, beq_self_eq_true, ↓reduceIte, reduceCtorEq, Nat.reduceLT, Nat.reduceAdd, Nat.reduceSub, Nat.reduceMul, Nat.reduceLeDiff, Nat.reducePow, Nat.reduceEqDiff, Nat.reduceBEq, Int.reduceLT, Int.reduceLE, Int.reduceGT, Int.reduceGE, Int.cast_ofNat_Int, Int.reduceBEq, Int.reduceSub, Int.reduceAdd, Int.reduceMul, Int.reduceToNat, Int.reduceEq, Int.reduceNeg, and_self, and_true, true_and, false_or, or_false, or_true, true_or, Bool.or_self, Bool.or_false, Bool.or_true, ne_eq, not_true_eq_false, not_false_eq_true, thenA, St.only, wkL, hd]
    refine XV_sound (esc := fun _ => false) orders hFG qFG _ _ _ ?_
    simp only [↓XV, isLoop, xOps, xStep, dOps, dRun, wild, yRun, yStep, yOp, cls, Am.dropL, aWant, xOp, xPure, rd, xCall, calleeAV, Option.bind_some, Option.bind_none, Option.map_some, Option.map_none, St.put, List.getD_cons_succ, List.getD_cons_zero, List.length_cons, List.length_nil, Array.toList, ofV, toV, ofC, List.set_cons_succ, List.set_cons_zero, List.cons_append, List.nil_append, List.append_nil, AV.cells?, newBox, St.setAt, boxCells, List.getElem?_cons_succ, List.getElem?_cons_zero, Nat.zero_add, Nat.add_zero, Option.any_some, Option.any_none, frame0, List.reduceReplicate, bin_i, bin_fl, bin_cadd, bin_csub, bin_cmul, bin_ceql, intBin, shiftBin, isShift, getB, strip, List.map_cons, List.map_nil, List.drop_zero, List.drop_succ_cons, AV.nrmL, AV.nrm, plainL, argCells, St.freezeIn, noRow, List.flatten_cons, List.flatten_nil, List.all_cons, List.all_nil, Option.getD_some, List.getElem?_toArray, Option.bind_fun_some, beq_true, beq_false, partsAV, xStoreOp, isOwn, isBox, xStore, setB, okScope, splice, AV.one, notW, AV.data, Nat.zero_le, decide_true, decide_false, Bool.false_or, Bool.true_or, idx, lenAV, finAV, resList, resOne, loadAV, single, AV.bel, AV.belL, List.take_zero, List.take_nil, List.take_succ_cons, Bool.false_eq_true, Bool.true_and, Bool.and_true, Bool.and_self, Bool.not_true, Bool.not_false, beq_self_eq_true, ↓reduceIte, reduceCtorEq, Nat.reduceLT, Nat.reduceAdd, Nat.reduceSub, Nat.reduceMul, Nat.reduceLeDiff, Nat.reducePow, Nat.reduceEqDiff, Nat.reduceBEq, Int.reduceLT, Int.reduceLE, Int.reduceGT, Int.reduceGE, Int.cast_ofNat_Int, Int.reduceBEq, Int.reduceSub, Int.reduceAdd, Int.reduceMul, Int.reduceToNat, Int.reduceEq, Int.reduceNeg, and_self, and_true, true_and, false_or, or_false, or_true, true_or, Bool.or_self, Bool.or_false, Bool.or_true, ne_eq, not_true_eq_false, not_false_eq_true, hv, show Try.f14.results.toList = [.tmp 4] from rfl]
  | succ k =>
    have hd : decide ((k : Int) ≥ 0) = true := decide_eq_true (by omega)
    have e8 : ((k + 1 : Nat) : Int) - 1 = (k : Int) := by omega
    have g4 : (0 ≤ (k : Int)) = True := eq_true (by omega)
    have g5 : ((k : Int) < 16) = True := eq_true (by omega)
    have g7 : (k : Int).toNat = k := Int.toNat_natCast _
    have m1 := l1 k (by omega)
    have m2 := l2 k (by omega)
    have f3 : IntKind.i64.wrap ((k : Int) - 1) = (k : Int) - 1 := wrap64 (by omega) (by omega)
    rw [e8]
    by_cases c1 : dg16 N k < dg16 M k
    · have d1 : decide (((dg16 N k : Nat) : Int) < ((dg16 M k : Nat) : Int)) = true := decide_eq_true (by omega)
      have hlt := dg_lt he c1
      have hv : cmpv N M = -1 := by unfold cmpv; rw [if_pos hlt]
      refine XV_sound (esc := fun _ => false) orders hFG qFG _ _ _ ?_
      simp only [↓XV, isLoop, xOps, xStep, dOps, dRun, wild, yRun, yStep, yOp, cls, Am.dropL, aWant, xOp, xPure, rd, xCall, calleeAV, Option.bind_some, Option.bind_none, Option.map_some, Option.map_none, St.put, List.getD_cons_succ, List.getD_cons_zero, List.length_cons, List.length_nil, Array.toList, ofV, toV, ofC, List.set_cons_succ, List.set_cons_zero, List.cons_append, List.nil_append, List.append_nil, AV.cells?, newBox, St.setAt, boxCells, List.getElem?_cons_succ, List.getElem?_cons_zero, Nat.zero_add, Nat.add_zero, Option.any_some, Option.any_none, frame0, List.reduceReplicate, bin_i, bin_fl, bin_cadd, bin_csub, bin_cmul, bin_ceql, intBin, shiftBin, isShift, getB, strip, List.map_cons, List.map_nil, List.drop_zero, List.drop_succ_cons, AV.nrmL, AV.nrm, plainL, argCells, St.freezeIn, noRow, List.flatten_cons, List.flatten_nil, List.all_cons, List.all_nil, Option.getD_some, List.getElem?_toArray, Option.bind_fun_some, beq_true, beq_false, partsAV, xStoreOp, isOwn, isBox, xStore, setB, okScope, splice, AV.one, notW, AV.data, Nat.zero_le, decide_true, decide_false, Bool.false_or, Bool.true_or, idx, lenAV, finAV, resList, resOne, loadAV, single, AV.bel, AV.belL, List.take_zero, List.take_nil, List.take_succ_cons, Bool.false_eq_true, Bool.true_and, Bool.and_true, Bool.and_self, Bool.not_true, Bool.not_false, beq_self_eq_true, ↓reduceIte, reduceCtorEq, Nat.reduceLT, Nat.reduceAdd, Nat.reduceSub, Nat.reduceMul, Nat.reduceLeDiff, Nat.reducePow, Nat.reduceEqDiff, Nat.reduceBEq, Int.reduceLT, Int.reduceLE, Int.reduceGT, Int.reduceGE, Int.cast_ofNat_Int, Int.reduceBEq, Int.reduceSub, Int.reduceAdd, Int.reduceMul, Int.reduceToNat, Int.reduceEq, Int.reduceNeg, and_self, and_true, true_and, false_or, or_false, or_true, true_or, Bool.or_self, Bool.or_false, Bool.or_true, ne_eq, not_true_eq_false, not_false_eq_true, thenA, St.only, wkL, hd, g4, g5, g7, m1, m2, f3, d1, sl61, sz22, hv, show Try.f14.results.toList = [.tmp 4] from rfl]
      kernel_rfl
    · have d1 : decide (((dg16 N k : Nat) : Int) < ((dg16 M k : Nat) : Int)) = false := decide_eq_false (by omega)
      by_cases c2 : dg16 M k < dg16 N k
      · have d2 : decide (((dg16 N k : Nat) : Int) > ((dg16 M k : Nat) : Int)) = true := decide_eq_true (by omega)
        have hlt := dg_lt he.symm c2
        have hv : cmpv N M = 1 := by unfold cmpv; rw [if_neg (by omega), if_pos hlt]
        refine XV_sound (esc := fun _ => false) orders hFG qFG _ _ _ ?_
        simp only [↓XV, isLoop, xOps, xStep, dOps, dRun, wild, yRun, yStep, yOp, cls, Am.dropL, aWant, xOp, xPure, rd, xCall, calleeAV, Option.bind_some, Option.bind_none, Option.map_some, Option.map_none, St.put, List.getD_cons_succ, List.getD_cons_zero, List.length_cons, List.length_nil, Array.toList, ofV, toV, ofC, List.set_cons_succ, List.set_cons_zero, List.cons_append, List.nil_append, List.append_nil, AV.cells?, newBox, St.setAt, boxCells, List.getElem?_cons_succ, List.getElem?_cons_zero, Nat.zero_add, Nat.add_zero, Option.any_some, Option.any_none, frame0, List.reduceReplicate, bin_i, bin_fl, bin_cadd, bin_csub, bin_cmul, bin_ceql, intBin, shiftBin, isShift, getB, strip, List.map_cons, List.map_nil, List.drop_zero, List.drop_succ_cons, AV.nrmL, AV.nrm, plainL, argCells, St.freezeIn, noRow, List.flatten_cons, List.flatten_nil, List.all_cons, List.all_nil, Option.getD_some, List.getElem?_toArray, Option.bind_fun_some, beq_true, beq_false, partsAV, xStoreOp, isOwn, isBox, xStore, setB, okScope, splice, AV.one, notW, AV.data, Nat.zero_le, decide_true, decide_false, Bool.false_or, Bool.true_or, idx, lenAV, finAV, resList, resOne, loadAV, single, AV.bel, AV.belL, List.take_zero, List.take_nil, List.take_succ_cons, Bool.false_eq_true, Bool.true_and, Bool.and_true, Bool.and_self, Bool.not_true, Bool.not_false, beq_self_eq_true, ↓reduceIte, reduceCtorEq, Nat.reduceLT, Nat.reduceAdd, Nat.reduceSub, Nat.reduceMul, Nat.reduceLeDiff, Nat.reducePow, Nat.reduceEqDiff, Nat.reduceBEq, Int.reduceLT, Int.reduceLE, Int.reduceGT, Int.reduceGE, Int.cast_ofNat_Int, Int.reduceBEq, Int.reduceSub, Int.reduceAdd, Int.reduceMul, Int.reduceToNat, Int.reduceEq, Int.reduceNeg, and_self, and_true, true_and, false_or, or_false, or_true, true_or, Bool.or_self, Bool.or_false, Bool.or_true, ne_eq, not_true_eq_false, not_false_eq_true, thenA, St.only, wkL, hd, g4, g5, g7, m1, m2, f3, d1, d2, sl61, sz22, hv, show Try.f14.results.toList = [.tmp 4] from rfl]
        exact ⟨by kernel_rfl, by kernel_rfl⟩
      · have d2 : decide (((dg16 N k : Nat) : Int) > ((dg16 M k : Nat) : Int)) = false := decide_eq_false (by omega)
        refine XV_sound (esc := fun _ => false) orders hFG qFG _ _ _ ?_
        simp only [↓XV, isLoop, xOps, xStep, dOps, dRun, wild, yRun, yStep, yOp, cls, Am.dropL, aWant, xOp, xPure, rd, xCall, calleeAV, Option.bind_some, Option.bind_none, Option.map_some, Option.map_none, St.put, List.getD_cons_succ, List.getD_cons_zero, List.length_cons, List.length_nil, Array.toList, ofV, toV, ofC, List.set_cons_succ, List.set_cons_zero, List.cons_append, List.nil_append, List.append_nil, AV.cells?, newBox, St.setAt, boxCells, List.getElem?_cons_succ, List.getElem?_cons_zero, Nat.zero_add, Nat.add_zero, Option.any_some, Option.any_none, frame0, List.reduceReplicate, bin_i, bin_fl, bin_cadd, bin_csub, bin_cmul, bin_ceql, intBin, shiftBin, isShift, getB, strip, List.map_cons, List.map_nil, List.drop_zero, List.drop_succ_cons, AV.nrmL, AV.nrm, plainL, argCells, St.freezeIn, noRow, List.flatten_cons, List.flatten_nil, List.all_cons, List.all_nil, Option.getD_some, List.getElem?_toArray, Option.bind_fun_some, beq_true, beq_false, partsAV, xStoreOp, isOwn, isBox, xStore, setB, okScope, splice, AV.one, notW, AV.data, Nat.zero_le, decide_true, decide_false, Bool.false_or, Bool.true_or, idx, lenAV, finAV, resList, resOne, loadAV, single, AV.bel, AV.belL, List.take_zero, List.take_nil, List.take_succ_cons, Bool.false_eq_true, Bool.true_and, Bool.and_true, Bool.and_self, Bool.not_true, Bool.not_false, beq_self_eq_true, ↓reduceIte, reduceCtorEq, Nat.reduceLT, Nat.reduceAdd, Nat.reduceSub, Nat.reduceMul, Nat.reduceLeDiff, Nat.reducePow, Nat.reduceEqDiff, Nat.reduceBEq, Int.reduceLT, Int.reduceLE, Int.reduceGT, Int.reduceGE, Int.cast_ofNat_Int, Int.reduceBEq, Int.reduceSub, Int.reduceAdd, Int.reduceMul, Int.reduceToNat, Int.reduceEq, Int.reduceNeg, and_self, and_true, true_and, false_or, or_false, or_true, true_or, Bool.or_self, Bool.or_false, Bool.or_true, ne_eq, not_true_eq_false, not_false_eq_true, thenA, St.only, wkL, hd, g4, g5, g7, m1, m2, f3, d1, d2, sl61, sz22]
        refine ⟨by kernel_rfl, by kernel_rfl, k, by omega, rfl, by omega, ?_⟩
        rw [dg_step N k, dg_step M k, he]
        omega

theorem isNum.f14 {xs ys : List AV} {N M : Nat} (hx : isNum xs N) (hy : isNum ys M) (S O : List Blk) : FG 14 [.a xs, .a ys] S O = some (.s (.i .i64 (cmpv N M)), S, O) := by
  have h := cmp14 hx hy
  obtain ⟨a0, a1, a2, a3, _, _, _, _, rfl, rfl⟩ := hx
  obtain ⟨b0, b1, b2, b3, _, _, _, _, rfl, rfl⟩ := hy
  exact FK_eq h rfl rfl rfl S O

theorem build24 (n : Nat) : buildAV Try.prog 24 [(0, .s (.i .u64 (n : Int)))] = some (.a [.s (.i .u64 n), .s (.i .u64 0), .s (.i .u64 0), .s (.i .u64 0)]) := by kernel_rfl

theorem conv2622 {n : Nat} (h : n < 2 ^ 53) : scVal Try.prog (convert 26 22 (.float .f64 (nr n))) = some (.s (.i .u64 (n : Int))) := by
  have hx : ∀ w, scVal Try.prog (convert 26 22 (.float .f64 w)) = scVal Try.prog (Conv.floatToInt .f64 w .u64) := fun w => by kernel_rfl
  have e : Conv.floatToInt .f64 (nr n) .u64 = pure (.int .u64 (n : Int)) := by
    unfold Conv.floatToInt
    rw [show FloatKind.f64.decode (nr n) = Ieee.double.read (nr n) from rfl, toInt_nr h]
    have h1 : IntKind.u64.min ≤ (n : Int) ∧ (n : Int) ≤ IntKind.u64.max := by
      have : IntKind.u64.min = 0 := by decide
      have : IntKind.u64.max = 18446744073709551615 := by decide
      omega
    simp only [h1, and_self, if_true]
  rw [hx, e]
  rfl
end Go.Am
