/-
  THE WALKS: gauge.Float, whose highest part is the fourth.
-/
import Derived.Test.YtgbkilmgmnhokaaG8
set_option linter.unusedSimpArgs false
set_option linter.unusedVariables false
namespace Go.Am
open Go Go.Proofs Go.Fl

theorem num_facts (a z : Nat) (hz : z < 64) :
    ((z : Int) < 0) = False ∧ (z : Int).toNat = z ∧ min z IntKind.u64.bits = z ∧ IntKind.i64.wrap (64 - (z : Int)) = ((64 - z : Nat) : Int) ∧ (((64 - z : Nat) : Int) < 0) = False ∧ ((64 - z : Nat) : Int).toNat = 64 - z ∧ min (64 - z) IntKind.u64.bits = 64 - z ∧
    (a : Int).fdiv (2 ^ (64 - z)) = ((a / 2 ^ (64 - z) : Nat) : Int) := by
  refine ⟨by simp, by simp, ?_, ?_, by simp, by simp, ?_, fdiv_nat _ _⟩
  · show min z 64 = z; omega
  · rw [wrap64 (by omega) (by omega)]; omega
  · show min (64 - z) 64 = 64 - z; omega

section
variable {F : Tab} (hF : F.valid Try.prog) (hq : Calm F (fun _ => true))
include hF hq

set_option maxRecDepth 8000 in
theorem float12_3 (a0 a1 a2 a3 z y y' : Nat) (hn : ((a3 : Int) == 0) = false) (hz : z < 64) (hA : a3 * 2 ^ z < 2 ^ 64) (hB : a2 / 2 ^ (64 - z) < 2 ^ z) (hH : a3 * 2 ^ z + a2 / 2 ^ (64 - z) < 2 ^ 64)
    (w192 : IntKind.i64.wrap (192 - (z : Int)) = ((192 - z : Nat) : Int))
    (h28 : ∀ S O, F 28 [.s (.i .u64 a3)] S O = some (.s (.i .i64 z), S, O))
    (h29 : ∀ S O, F 29 [.l 2 [.s (.i .u64 a0), .s (.i .u64 a1)], .f 30 [] []] S O = some (.s (.b ((a0 : Int) != 0 || (a1 : Int) != 0)), S, O))
    (h31 : ∀ S O, F 31 [.s (.fl .f64 (nr (a3 * 2 ^ z + a2 / 2 ^ (64 - z)))), .s (.i .i64 (192 - z : Nat))] S O = some (.s (.fl .f64 y), S, O))
    (h31' : ∀ S O, F 31 [.s (.fl .f64 (nr (a3 * 2 ^ z + a2 / 2 ^ (64 - z) ||| 1))), .s (.i .i64 (192 - z : Nat))] S O = some (.s (.fl .f64 y'), S, O)) :
    ValidAt Try.prog 12 [.a [.s (.i .u64 a0), .s (.i .u64 a1), .s (.i .u64 a2), .s (.i .u64 a3)]] [] [] (.s (.fl .f64 (if (((a2 * 2 ^ z % 2 ^ 64 : Nat) : Int) != 0 || ((a0 : Int) != 0 || (a1 : Int) != 0)) = true then y' else y))) [] [] := by
  obtain ⟨s1, s2, s3, s4, s5, s6, s7, s8⟩ := num_facts a2 z hz
  have w2 : IntKind.i64.wrap 2 = 2 := by decide
  have hmx : (4 ≤ maxLen) = True := eq_true (by decide +kernel)
  have w192' : IntKind.i64.wrap 192 = 192 := by decide
  have f1 := shl64 hA
  have f2 := shlmod (a := a2) (z := z)
  have f3 := or64 (by omega) hB hA
  have f4 := or1 hH
  have f5 := conv26 (a3 * 2 ^ z + a2 / 2 ^ (64 - z))
  have f6 := conv26 (a3 * 2 ^ z + a2 / 2 ^ (64 - z) ||| 1)
  generalize a3 * 2 ^ z + a2 / 2 ^ (64 - z) = H at *
  generalize a2 / 2 ^ (64 - z) = B at *
  generalize a2 * 2 ^ z % 2 ^ 64 = R at *
  generalize hAA : a3 * 2 ^ z = A at *
  cases hR : ((R : Int) == 0)
  · refine valid_of_awp Try.func12 rfl (by simp [Try.ntmps12]) ?_
    refine XW_sound (esc := fun _ => false) orders hF hq _ _ _ ?_
    simp only [Try.ntmps12, ↓XW, xOps, xStep, dOps, dRun, wild, yRun, yStep, yOp, cls, Am.dropL, aWant, xOp, xPure, rd, xCall, calleeAV, Option.bind_some, Option.bind_none, Option.map_some, Option.map_none, St.put, List.getD_cons_succ, List.getD_cons_zero, List.length_cons, List.length_nil, Array.toList, ofV, toV, ofC, List.set_cons_succ, List.set_cons_zero, List.cons_append, List.nil_append, List.append_nil, AV.cells?, newBox, St.setAt, boxCells, List.getElem?_cons_succ, List.getElem?_cons_zero, Nat.zero_add, Nat.add_zero, Option.any_some, Option.any_none, frame0, List.reduceReplicate, bin_i, bin_fl, bin_cadd, bin_csub, bin_cmul, bin_ceql, intBin, shiftBin, isShift, getB, strip, List.map_cons, List.map_nil, List.drop_zero, List.drop_succ_cons, AV.nrmL, AV.nrm, plainL, argCells, St.freezeIn, noRow, List.flatten_cons, List.flatten_nil, List.all_cons, List.all_nil, Option.getD_some, List.getElem?_toArray, Option.bind_fun_some, beq_true, beq_false, partsAV, xStoreOp, isOwn, isBox, xStore, setB, okScope, splice, AV.one, notW, AV.data, Nat.zero_le, decide_true, decide_false, Bool.false_or, Bool.true_or, idx, lenAV, finAV, resList, resOne, loadAV, single, AV.bel, AV.belL, List.take_zero, List.take_nil, List.take_succ_cons, Bool.false_eq_true, Bool.true_and, Bool.and_true, Bool.and_self, Bool.not_true, Bool.not_false, beq_self_eq_true, reduceIte, reduceCtorEq, Nat.reduceLT, Nat.reduceAdd, Nat.reduceSub, Nat.reduceMul, Nat.reduceLeDiff, Nat.reducePow, Nat.reduceEqDiff, Nat.reduceBEq, Int.reduceLT, Int.reduceLE, Int.reduceGT, Int.reduceGE, Int.cast_ofNat_Int, Int.reduceBEq, Int.reduceSub, Int.reduceAdd, Int.reduceMul, Int.reduceToNat, Int.reduceEq, Int.reduceNeg, and_self, and_true, true_and, false_or, or_false, or_true, true_or, Bool.or_self, Bool.or_false, Bool.or_true, ne_eq, not_true_eq_false, not_false_eq_true, show Try.f12.results.toList = [.tmp 2] from rfl]
    refine AWP.loopK [true, true, true, true] (fun n st => n = 3 ∧ st = ⟨[.a [.s (.i .u64 a0), .s (.i .u64 a1), .s (.i .u64 a2), .s (.i .u64 a3)], .p (.s 1) 0, .s (.fl .f64 0), .s (.i .i64 3)] ++ List.replicate 58 .u,
      [.dead, .box 24 [.s (.i .u64 a0), .s (.i .u64 a1), .s (.i .u64 a2), .s (.i .u64 a3)]] ++ List.replicate 60 .dead, []⟩) 3 ⟨rfl, rfl⟩ ?_
    rintro n st ⟨rfl, rfl⟩
    refine XW_sound (esc := fun _ => false) orders hF hq _ _ _ ?_
    simp only [↓XW, xOps, xStep, dOps, dRun, wild, yRun, yStep, yOp, cls, Am.dropL, aWant, xOp, xPure, rd, xCall, calleeAV, Option.bind_some, Option.bind_none, Option.map_some, Option.map_none, St.put, List.getD_cons_succ, List.getD_cons_zero, List.length_cons, List.length_nil, Array.toList, ofV, toV, ofC, List.set_cons_succ, List.set_cons_zero, List.cons_append, List.nil_append, List.append_nil, AV.cells?, newBox, St.setAt, boxCells, List.getElem?_cons_succ, List.getElem?_cons_zero, Nat.zero_add, Nat.add_zero, Option.any_some, Option.any_none, frame0, List.reduceReplicate, bin_i, bin_fl, bin_cadd, bin_csub, bin_cmul, bin_ceql, intBin, shiftBin, isShift, getB, strip, List.map_cons, List.map_nil, List.drop_zero, List.drop_succ_cons, AV.nrmL, AV.nrm, plainL, argCells, St.freezeIn, noRow, List.flatten_cons, List.flatten_nil, List.all_cons, List.all_nil, Option.getD_some, List.getElem?_toArray, Option.bind_fun_some, beq_true, beq_false, partsAV, xStoreOp, isOwn, isBox, xStore, setB, okScope, splice, AV.one, notW, AV.data, Nat.zero_le, decide_true, decide_false, Bool.false_or, Bool.true_or, idx, lenAV, finAV, resList, resOne, loadAV, single, AV.bel, AV.belL, List.take_zero, List.take_nil, List.take_succ_cons, Bool.false_eq_true, Bool.true_and, Bool.and_true, Bool.and_self, Bool.not_true, Bool.not_false, beq_self_eq_true, reduceIte, reduceCtorEq, Nat.reduceLT, Nat.reduceAdd, Nat.reduceSub, Nat.reduceMul, Nat.reduceLeDiff, Nat.reducePow, Nat.reduceEqDiff, Nat.reduceBEq, Int.reduceLT, Int.reduceLE, Int.reduceGT, Int.reduceGE, Int.cast_ofNat_Int, Int.reduceBEq, Int.reduceSub, Int.reduceAdd, Int.reduceMul, Int.reduceToNat, Int.reduceEq, Int.reduceNeg, and_self, and_true, true_and, false_or, or_false, or_true, true_or, Bool.or_self, Bool.or_false, Bool.or_true, ne_eq, not_true_eq_false, not_false_eq_true, thenA, arr24, sz22, ag22, partAV, hn, hb28, h28, hb29, h29, hb31, h31, h31', s1, s2, s3, s4, s5, s6, s7, s8, f1, f2, f3, f4, f5, f6, hR, Bool.not_true, Bool.not_false, bne, u22, u26, xSlice, sliceAV, cutAV, bnd, St.freezeBox, St.give, St.giveTo, AV.subL, AV.sub, Blk.sub, List.mapIdx_cons, List.mapIdx_nil, Option.isSome_none, Option.isNone_none, Option.isNone_some, Bool.false_and, hmx, w2, w192, w192', Sc.val, show Try.f12.results.toList = [.tmp 2] from rfl]
    kernel_rfl
  · refine valid_of_awp Try.func12 rfl (by simp [Try.ntmps12]) ?_
    refine XW_sound (esc := fun _ => false) orders hF hq _ _ _ ?_
    simp only [Try.ntmps12, ↓XW, xOps, xStep, dOps, dRun, wild, yRun, yStep, yOp, cls, Am.dropL, aWant, xOp, xPure, rd, xCall, calleeAV, Option.bind_some, Option.bind_none, Option.map_some, Option.map_none, St.put, List.getD_cons_succ, List.getD_cons_zero, List.length_cons, List.length_nil, Array.toList, ofV, toV, ofC, List.set_cons_succ, List.set_cons_zero, List.cons_append, List.nil_append, List.append_nil, AV.cells?, newBox, St.setAt, boxCells, List.getElem?_cons_succ, List.getElem?_cons_zero, Nat.zero_add, Nat.add_zero, Option.any_some, Option.any_none, frame0, List.reduceReplicate, bin_i, bin_fl, bin_cadd, bin_csub, bin_cmul, bin_ceql, intBin, shiftBin, isShift, getB, strip, List.map_cons, List.map_nil, List.drop_zero, List.drop_succ_cons, AV.nrmL, AV.nrm, plainL, argCells, St.freezeIn, noRow, List.flatten_cons, List.flatten_nil, List.all_cons, List.all_nil, Option.getD_some, List.getElem?_toArray, Option.bind_fun_some, beq_true, beq_false, partsAV, xStoreOp, isOwn, isBox, xStore, setB, okScope, splice, AV.one, notW, AV.data, Nat.zero_le, decide_true, decide_false, Bool.false_or, Bool.true_or, idx, lenAV, finAV, resList, resOne, loadAV, single, AV.bel, AV.belL, List.take_zero, List.take_nil, List.take_succ_cons, Bool.false_eq_true, Bool.true_and, Bool.and_true, Bool.and_self, Bool.not_true, Bool.not_false, beq_self_eq_true, reduceIte, reduceCtorEq, Nat.reduceLT, Nat.reduceAdd, Nat.reduceSub, Nat.reduceMul, Nat.reduceLeDiff, Nat.reducePow, Nat.reduceEqDiff, Nat.reduceBEq, Int.reduceLT, Int.reduceLE, Int.reduceGT, Int.reduceGE, Int.cast_ofNat_Int, Int.reduceBEq, Int.reduceSub, Int.reduceAdd, Int.reduceMul, Int.reduceToNat, Int.reduceEq, Int.reduceNeg, and_self, and_true, true_and, false_or, or_false, or_true, true_or, Bool.or_self, Bool.or_false, Bool.or_true, ne_eq, not_true_eq_false, not_false_eq_true, show Try.f12.results.toList = [.tmp 2] from rfl]
    refine AWP.loopK [true, true, true, true] (fun n st => n = 3 ∧ st = ⟨[.a [.s (.i .u64 a0), .s (.i .u64 a1), .s (.i .u64 a2), .s (.i .u64 a3)], .p (.s 1) 0, .s (.fl .f64 0), .s (.i .i64 3)] ++ List.replicate 58 .u,
      [.dead, .box 24 [.s (.i .u64 a0), .s (.i .u64 a1), .s (.i .u64 a2), .s (.i .u64 a3)]] ++ List.replicate 60 .dead, []⟩) 3 ⟨rfl, rfl⟩ ?_
    rintro n st ⟨rfl, rfl⟩
    refine XW_sound (esc := fun _ => false) orders hF hq _ _ _ ?_
    simp only [↓XW, xOps, xStep, dOps, dRun, wild, yRun, yStep, yOp, cls, Am.dropL, aWant, xOp, xPure, rd, xCall, calleeAV, Option.bind_some, Option.bind_none, Option.map_some, Option.map_none, St.put, List.getD_cons_succ, List.getD_cons_zero, List.length_cons, List.length_nil, Array.toList, ofV, toV, ofC, List.set_cons_succ, List.set_cons_zero, List.cons_append, List.nil_append, List.append_nil, AV.cells?, newBox, St.setAt, boxCells, List.getElem?_cons_succ, List.getElem?_cons_zero, Nat.zero_add, Nat.add_zero, Option.any_some, Option.any_none, frame0, List.reduceReplicate, bin_i, bin_fl, bin_cadd, bin_csub, bin_cmul, bin_ceql, intBin, shiftBin, isShift, getB, strip, List.map_cons, List.map_nil, List.drop_zero, List.drop_succ_cons, AV.nrmL, AV.nrm, plainL, argCells, St.freezeIn, noRow, List.flatten_cons, List.flatten_nil, List.all_cons, List.all_nil, Option.getD_some, List.getElem?_toArray, Option.bind_fun_some, beq_true, beq_false, partsAV, xStoreOp, isOwn, isBox, xStore, setB, okScope, splice, AV.one, notW, AV.data, Nat.zero_le, decide_true, decide_false, Bool.false_or, Bool.true_or, idx, lenAV, finAV, resList, resOne, loadAV, single, AV.bel, AV.belL, List.take_zero, List.take_nil, List.take_succ_cons, Bool.false_eq_true, Bool.true_and, Bool.and_true, Bool.and_self, Bool.not_true, Bool.not_false, beq_self_eq_true, reduceIte, reduceCtorEq, Nat.reduceLT, Nat.reduceAdd, Nat.reduceSub, Nat.reduceMul, Nat.reduceLeDiff, Nat.reducePow, Nat.reduceEqDiff, Nat.reduceBEq, Int.reduceLT, Int.reduceLE, Int.reduceGT, Int.reduceGE, Int.cast_ofNat_Int, Int.reduceBEq, Int.reduceSub, Int.reduceAdd, Int.reduceMul, Int.reduceToNat, Int.reduceEq, Int.reduceNeg, and_self, and_true, true_and, false_or, or_false, or_true, true_or, Bool.or_self, Bool.or_false, Bool.or_true, ne_eq, not_true_eq_false, not_false_eq_true, thenA, arr24, sz22, ag22, partAV, hn, hb28, h28, hb29, h29, hb31, h31, h31', s1, s2, s3, s4, s5, s6, s7, s8, f1, f2, f3, f4, f5, f6, hR, Bool.not_true, Bool.not_false, bne, u22, u26, xSlice, sliceAV, cutAV, bnd, St.freezeBox, St.give, St.giveTo, AV.subL, AV.sub, Blk.sub, List.mapIdx_cons, List.mapIdx_nil, Option.isSome_none, Option.isNone_none, Option.isNone_some, Bool.false_and, hmx, w2, w192, w192', Sc.val, show Try.f12.results.toList = [.tmp 2] from rfl]
    refine ⟨by kernel_rfl, ?_⟩
    split <;> rfl
end
end Go.Am
