/-
  THE WALKS: GaugeRises.
-/
import Derived.Test.YtgbkilmgmnhokaaG21
set_option linter.unusedSimpArgs false
set_option linter.unusedVariables false
namespace Go.Am
open Go Go.Proofs Go.Fl

theorem k12s {n : Nat} (h : n < 2 ^ 53) (S O : List Blk) : FG 12 [.a [.s (.i .u64 n), .s (.i .u64 0), .s (.i .u64 0), .s (.i .u64 0)]] S O = some (.s (.fl .f64 (nr n)), S, O) := by
  have h1 := k12 (a0 := n) (a1 := 0) (a2 := 0) (a3 := 0) (by omega) (by omega) (by omega) (by omega) S O
  rw [show num n 0 0 0 = n by unfold num; omega] at h1
  exact h1

set_option exponentiation.threshold 1000 in
theorem order_le_gt {N M : Nat} (h : N ≤ M) (hM : M < 2 ^ 256) : (Ieee.double.order (nr N) (nr M) == some .gt) = false ∧ (Ieee.double.order (nr M) (nr N) == some .lt) = false := by
  have h1 : nr N ≤ nr M := nr_mono h (Nat.lt_of_lt_of_le hM (Nat.pow_le_pow_right (by decide) (by decide)))
  have h2 := (nr_fin (show N < 2 ^ 256 by omega)).2.1
  have h3 := (nr_fin hM).2.1
  rw [order_words (by omega) (by omega), order_words (by omega) (by omega)]
  rcases Nat.lt_or_eq_of_le h1 with h | h
  · rw [ncmp_lt h, ncmp_gt h]; exact ⟨rfl, rfl⟩
  · rw [h, ncmp_eq]; exact ⟨rfl, rfl⟩

set_option maxRecDepth 8000 in
theorem rises4 {xs ys : List AV} {N M : Nat} (hx : isNum xs N) (hy : isNum ys M) (s : Nat) : ValidAt Try.prog 4 [.a xs, .a ys, .s (.i .u64 s)] [] [] (.s (.b true)) [] [] := by
  have f1 := hx.f12
  have f2 := hy.f12
  have f3 := hx.f14 hy
  have hs : (s : Int).tmod 9007199254740992 = ((s % 2 ^ 53 : Nat) : Int) := by rw [Int.tmod_eq_emod_of_nonneg (by omega)]; omega
  have hn : s % 2 ^ 53 < 2 ^ 53 := Nat.mod_lt _ (by decide)
  have f4 := k12s hn
  have f5 := conv2622 hn
  have f6 := build24 (s % 2 ^ 53)
  have ol := fun h : N ≤ M => order_le_gt h hy.lt
  have og := fun h : M ≤ N => order_le_gt h hx.lt
  obtain ⟨a0, a1, a2, a3, _, _, _, _, rfl, _⟩ := hx
  obtain ⟨b0, b1, b2, b3, _, _, _, _, rfl, _⟩ := hy
  have ev : cmpv N M = if N < M then -1 else if M < N then 1 else 0 := rfl
  generalize cmpv N M = c at *
  generalize nr N = x at *
  generalize nr M = y at *
  generalize nr (s % 2 ^ 53) = z at *
  generalize s % 2 ^ 53 = n at *
  rcases Nat.lt_trichotomy N M with h | h | h
  · obtain ⟨o1, o2⟩ := ol (by omega)
    rw [if_pos h] at ev
    subst ev
    refine valid_of_awp Try.func4 rfl (by simp [Try.ntmps4]) ?_
    refine XV_sound (esc := fun _ => false) orders hFG qFG _ _ _ ?_
    simp only [Try.ntmps4, ↓XV, isLoop, xOps, xStep, dOps, dRun, wild, yRun, yStep, yOp, cls, Am.dropL, aWant, xOp, xPure, rd, xCall, calleeAV, Option.bind_some, Option.bind_none, Option.map_some, Option.map_none, St.put, List.getD_cons_succ, List.getD_cons_zero, List.length_cons, List.length_nil, Array.toList, ofV, toV, ofC, List.set_cons_succ, List.set_cons_zero, List.cons_append, List.nil_append, List.append_nil, AV.cells?, newBox, St.setAt, boxCells, List.getElem?_cons_succ, List.getElem?_cons_zero, Nat.zero_add, Nat.add_zero, Option.any_some, Option.any_none, frame0, List.reduceReplicate, bin_i, bin_fl, bin_cadd, bin_csub, bin_cmul, bin_ceql, intBin, shiftBin, isShift, getB, strip, List.map_cons, List.map_nil, List.drop_zero, List.drop_succ_cons, AV.nrmL, AV.nrm, plainL, argCells, St.freezeIn, noRow, List.flatten_cons, List.flatten_nil, List.all_cons, List.all_nil, Option.getD_some, List.getElem?_toArray, Option.bind_fun_some, beq_true, beq_false, partsAV, xStoreOp, isOwn, isBox, xStore, setB, okScope, splice, AV.one, notW, AV.data, Nat.zero_le, decide_true, decide_false, Bool.false_or, Bool.true_or, idx, lenAV, finAV, resList, resOne, loadAV, single, AV.bel, AV.belL, List.take_zero, List.take_nil, List.take_succ_cons, Bool.false_eq_true, Bool.true_and, Bool.and_true, Bool.and_self, Bool.not_true, Bool.not_false, beq_self_eq_true, ↓reduceIte, reduceCtorEq, Nat.reduceLT, Nat.reduceAdd, Nat.reduceSub, Nat.reduceMul, Nat.reduceLeDiff, Nat.reducePow, Nat.reduceEqDiff, Nat.reduceBEq, Int.reduceLT, Int.reduceLE, Int.reduceGT, Int.reduceGE, Int.cast_ofNat_Int, Int.reduceBEq, Int.reduceSub, Int.reduceAdd, Int.reduceMul, Int.reduceToNat, Int.reduceEq, Int.reduceNeg, and_self, and_true, true_and, false_or, or_false, or_true, true_or, Bool.or_self, Bool.or_false, Bool.or_true, ne_eq, not_true_eq_false, not_false_eq_true, hb11, hb12, hb14, k11, f1, f2, f3, f4, f5, f6, f64, o1, o2, hs, u22, u26, Sc.val, pa24, show Try.f4.results.toList = [.tmp 6] from rfl]
    kernel_rfl
  · obtain ⟨o1, o2⟩ := ol (by omega)
    obtain ⟨o3, o4⟩ := og (by omega)
    rw [if_neg (by omega), if_neg (by omega)] at ev
    subst ev
    refine valid_of_awp Try.func4 rfl (by simp [Try.ntmps4]) ?_
    refine XV_sound (esc := fun _ => false) orders hFG qFG _ _ _ ?_
    simp only [Try.ntmps4, ↓XV, isLoop, xOps, xStep, dOps, dRun, wild, yRun, yStep, yOp, cls, Am.dropL, aWant, xOp, xPure, rd, xCall, calleeAV, Option.bind_some, Option.bind_none, Option.map_some, Option.map_none, St.put, List.getD_cons_succ, List.getD_cons_zero, List.length_cons, List.length_nil, Array.toList, ofV, toV, ofC, List.set_cons_succ, List.set_cons_zero, List.cons_append, List.nil_append, List.append_nil, AV.cells?, newBox, St.setAt, boxCells, List.getElem?_cons_succ, List.getElem?_cons_zero, Nat.zero_add, Nat.add_zero, Option.any_some, Option.any_none, frame0, List.reduceReplicate, bin_i, bin_fl, bin_cadd, bin_csub, bin_cmul, bin_ceql, intBin, shiftBin, isShift, getB, strip, List.map_cons, List.map_nil, List.drop_zero, List.drop_succ_cons, AV.nrmL, AV.nrm, plainL, argCells, St.freezeIn, noRow, List.flatten_cons, List.flatten_nil, List.all_cons, List.all_nil, Option.getD_some, List.getElem?_toArray, Option.bind_fun_some, beq_true, beq_false, partsAV, xStoreOp, isOwn, isBox, xStore, setB, okScope, splice, AV.one, notW, AV.data, Nat.zero_le, decide_true, decide_false, Bool.false_or, Bool.true_or, idx, lenAV, finAV, resList, resOne, loadAV, single, AV.bel, AV.belL, List.take_zero, List.take_nil, List.take_succ_cons, Bool.false_eq_true, Bool.true_and, Bool.and_true, Bool.and_self, Bool.not_true, Bool.not_false, beq_self_eq_true, ↓reduceIte, reduceCtorEq, Nat.reduceLT, Nat.reduceAdd, Nat.reduceSub, Nat.reduceMul, Nat.reduceLeDiff, Nat.reducePow, Nat.reduceEqDiff, Nat.reduceBEq, Int.reduceLT, Int.reduceLE, Int.reduceGT, Int.reduceGE, Int.cast_ofNat_Int, Int.reduceBEq, Int.reduceSub, Int.reduceAdd, Int.reduceMul, Int.reduceToNat, Int.reduceEq, Int.reduceNeg, and_self, and_true, true_and, false_or, or_false, or_true, true_or, Bool.or_self, Bool.or_false, Bool.or_true, ne_eq, not_true_eq_false, not_false_eq_true, hb11, hb12, hb14, k11, f1, f2, f3, f4, f5, f6, f64, o1, o2, o3, o4, hs, u22, u26, Sc.val, pa24, show Try.f4.results.toList = [.tmp 6] from rfl]
    kernel_rfl
  · obtain ⟨o3, o4⟩ := og (by omega)
    rw [if_neg (by omega), if_pos h] at ev
    subst ev
    refine valid_of_awp Try.func4 rfl (by simp [Try.ntmps4]) ?_
    refine XV_sound (esc := fun _ => false) orders hFG qFG _ _ _ ?_
    simp only [Try.ntmps4, ↓XV, isLoop, xOps, xStep, dOps, dRun, wild, yRun, yStep, yOp, cls, Am.dropL, aWant, xOp, xPure, rd, xCall, calleeAV, Option.bind_some, Option.bind_none, Option.map_some, Option.map_none, St.put, List.getD_cons_succ, List.getD_cons_zero, List.length_cons, List.length_nil, Array.toList, ofV, toV, ofC, List.set_cons_succ, List.set_cons_zero, List.cons_append, List.nil_append, List.append_nil, AV.cells?, newBox, St.setAt, boxCells, List.getElem?_cons_succ, List.getElem?_cons_zero, Nat.zero_add, Nat.add_zero, Option.any_some, Option.any_none, frame0, List.reduceReplicate, bin_i, bin_fl, bin_cadd, bin_csub, bin_cmul, bin_ceql, intBin, shiftBin, isShift, getB, strip, List.map_cons, List.map_nil, List.drop_zero, List.drop_succ_cons, AV.nrmL, AV.nrm, plainL, argCells, St.freezeIn, noRow, List.flatten_cons, List.flatten_nil, List.all_cons, List.all_nil, Option.getD_some, List.getElem?_toArray, Option.bind_fun_some, beq_true, beq_false, partsAV, xStoreOp, isOwn, isBox, xStore, setB, okScope, splice, AV.one, notW, AV.data, Nat.zero_le, decide_true, decide_false, Bool.false_or, Bool.true_or, idx, lenAV, finAV, resList, resOne, loadAV, single, AV.bel, AV.belL, List.take_zero, List.take_nil, List.take_succ_cons, Bool.false_eq_true, Bool.true_and, Bool.and_true, Bool.and_self, Bool.not_true, Bool.not_false, beq_self_eq_true, ↓reduceIte, reduceCtorEq, Nat.reduceLT, Nat.reduceAdd, Nat.reduceSub, Nat.reduceMul, Nat.reduceLeDiff, Nat.reducePow, Nat.reduceEqDiff, Nat.reduceBEq, Int.reduceLT, Int.reduceLE, Int.reduceGT, Int.reduceGE, Int.cast_ofNat_Int, Int.reduceBEq, Int.reduceSub, Int.reduceAdd, Int.reduceMul, Int.reduceToNat, Int.reduceEq, Int.reduceNeg, and_self, and_true, true_and, false_or, or_false, or_true, true_or, Bool.or_self, Bool.or_false, Bool.or_true, ne_eq, not_true_eq_false, not_false_eq_true, hb11, hb12, hb14, k11, f1, f2, f3, f4, f5, f6, f64, o3, o4, hs, u22, u26, Sc.val, pa24, show Try.f4.results.toList = [.tmp 6] from rfl]
    kernel_rfl

theorem run4 (avs : List AV) (h : ShArgs Try.prog 20 Try.f4.params.toList avs) : ValidAt Try.prog 4 avs [] [] (.s (.b true)) [] [] := by
  have e : Try.f4.params.toList = [24, 24, 22] := rfl
  rw [e] at h
  obtain ⟨xs, _, rfl, h1, ys, _, rfl, h2, ks, _, rfl, h3, rfl⟩ := h
  obtain ⟨N, hN⟩ := sh24 h1
  obtain ⟨M, hM⟩ := sh24 h2
  obtain ⟨s, _, rfl⟩ := sh22 h3
  rw [arg24, arg24, arg22]
  exact rises4 hN hM s
end Go.Am
