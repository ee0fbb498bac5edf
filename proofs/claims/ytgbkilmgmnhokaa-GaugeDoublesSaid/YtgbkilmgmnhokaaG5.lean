/-
  THE WALKS: leading zeros; is any of them not nought.
-/
import Derived.Test.YtgbkilmgmnhokaaG4
set_option linter.unusedSimpArgs false
set_option linter.unusedVariables false
namespace Go.Am
open Go Go.Proofs Go.Fl

theorem hb35 : hasBody Try.prog 35 = true := by kernel_rfl
theorem hb36 : hasBody Try.prog 36 = true := by kernel_rfl
theorem hb30 : hasBody Try.prog 30 = true := by kernel_rfl
theorem sl61 : sliceO Try.prog 61 = some 22 := by kernel_rfl
theorem u61 : Try.prog.underlying 61 = some (.slice 22) := by kernel_rfl
theorem sz22 : szO Try.prog 22 = some 1 := by kernel_rfl
theorem ag22 : aggO Try.prog 22 = false := by kernel_rfl

section
variable {F : Tab} (hF : F.valid Try.prog) (hq : Calm F (fun _ => true))
include hF hq

set_option maxRecDepth 4000 in
theorem lz28 (x : Nat) (hx : bl x ≤ 64) (h35 : ∀ S O, F 35 [.s (.i .u64 x)] S O = some (.s (.i .i64 (bl x : Nat)), S, O)) : ValidAt Try.prog 28 [.s (.i .u64 x)] [] [] (.s (.i .i64 (64 - bl x : Nat))) [] [] := by
  have w : IntKind.i64.wrap (64 - (bl x : Nat)) = ((64 - bl x : Nat) : Int) := by rw [wrap64 (by omega) (by omega)]; omega
  refine valid_of_awp Try.func28 rfl (by simp [Try.ntmps28]) ?_
  refine XW_sound (esc := fun _ => false) orders hF hq _ _ _ ?_
  simp only [Try.ntmps28, ↓XW, xOps, xStep, dOps, dRun, wild, yRun, yStep, yOp, cls, Am.dropL, aWant, xOp, xPure, rd, xCall, calleeAV, Option.bind_some, Option.bind_none, Option.map_some, Option.map_none, St.put, List.getD_cons_succ, List.getD_cons_zero, List.length_cons, List.length_nil, Array.toList, ofV, toV, ofC, List.set_cons_succ, List.set_cons_zero, List.cons_append, List.nil_append, List.append_nil, AV.cells?, newBox, St.setAt, boxCells, List.getElem?_cons_succ, List.getElem?_cons_zero, Nat.zero_add, Nat.add_zero, Option.any_some, Option.any_none, frame0, List.reduceReplicate, bin_i, bin_fl, bin_cadd, bin_csub, bin_cmul, bin_ceql, intBin, shiftBin, isShift, getB, strip, List.map_cons, List.map_nil, List.drop_zero, List.drop_succ_cons, AV.nrmL, AV.nrm, plainL, argCells, St.freezeIn, noRow, List.flatten_cons, List.flatten_nil, List.all_cons, List.all_nil, Option.getD_some, List.getElem?_toArray, Option.bind_fun_some, beq_true, beq_false, partsAV, xStoreOp, isOwn, isBox, xStore, setB, okScope, splice, AV.one, notW, AV.data, Nat.zero_le, decide_true, decide_false, Bool.false_or, Bool.true_or, idx, lenAV, finAV, resList, resOne, loadAV, single, AV.bel, AV.belL, List.take_zero, List.take_nil, List.take_succ_cons, Bool.false_eq_true, Bool.true_and, Bool.and_true, Bool.and_self, Bool.not_true, Bool.not_false, beq_self_eq_true, reduceIte, reduceCtorEq, Nat.reduceLT, Nat.reduceAdd, Nat.reduceSub, Nat.reduceMul, Nat.reduceLeDiff, Nat.reducePow, Nat.reduceEqDiff, Nat.reduceBEq, Int.reduceLT, Int.reduceLE, Int.reduceToNat, Int.reduceEq, Int.reduceNeg, and_self, and_true, true_and, false_or, or_false, or_true, true_or, Bool.or_self, Bool.or_false, Bool.or_true, ne_eq, not_true_eq_false, not_false_eq_true, hb35, h35, w, show Try.f28.results.toList = [.tmp 2] from rfl]

set_option maxRecDepth 4000 in
theorem cl30 (x : Int) : ValidAt Try.prog 30 [.s (.i .u64 x)] [] [] (.s (.b (x != 0))) [] [] := by
  refine valid_of_awp Try.func30 rfl (by simp [Try.ntmps30]) ?_
  refine XW_sound (esc := fun _ => false) orders hF hq _ _ _ ?_
  simp only [Try.ntmps30, ↓XW, xOps, xStep, dOps, dRun, wild, yRun, yStep, yOp, cls, Am.dropL, aWant, xOp, xPure, rd, xCall, calleeAV, Option.bind_some, Option.bind_none, Option.map_some, Option.map_none, St.put, List.getD_cons_succ, List.getD_cons_zero, List.length_cons, List.length_nil, Array.toList, ofV, toV, ofC, List.set_cons_succ, List.set_cons_zero, List.cons_append, List.nil_append, List.append_nil, AV.cells?, newBox, St.setAt, boxCells, List.getElem?_cons_succ, List.getElem?_cons_zero, Nat.zero_add, Nat.add_zero, Option.any_some, Option.any_none, frame0, List.reduceReplicate, bin_i, bin_fl, bin_cadd, bin_csub, bin_cmul, bin_ceql, intBin, shiftBin, isShift, getB, strip, List.map_cons, List.map_nil, List.drop_zero, List.drop_succ_cons, AV.nrmL, AV.nrm, plainL, argCells, St.freezeIn, noRow, List.flatten_cons, List.flatten_nil, List.all_cons, List.all_nil, Option.getD_some, List.getElem?_toArray, Option.bind_fun_some, beq_true, beq_false, partsAV, xStoreOp, isOwn, isBox, xStore, setB, okScope, splice, AV.one, notW, AV.data, Nat.zero_le, decide_true, decide_false, Bool.false_or, Bool.true_or, idx, lenAV, finAV, resList, resOne, loadAV, single, AV.bel, AV.belL, List.take_zero, List.take_nil, List.take_succ_cons, Bool.false_eq_true, Bool.true_and, Bool.and_true, Bool.and_self, Bool.not_true, Bool.not_false, beq_self_eq_true, reduceIte, reduceCtorEq, Nat.reduceLT, Nat.reduceAdd, Nat.reduceSub, Nat.reduceMul, Nat.reduceLeDiff, Nat.reducePow, Nat.reduceEqDiff, Nat.reduceBEq, Int.reduceLT, Int.reduceLE, Int.reduceToNat, Int.reduceEq, Int.reduceNeg, and_self, and_true, true_and, false_or, or_false, or_true, true_or, Bool.or_self, Bool.or_false, Bool.or_true, ne_eq, not_true_eq_false, not_false_eq_true, show Try.f30.results.toList = [.tmp 2] from rfl]

/-- The first that is not nought. -/
def firstOf : List Int → Nat → Int
  | [], _ => -1
  | x :: xs, i => if (x != 0) = true then i else firstOf xs (i + 1)

set_option maxRecDepth 4000 in
theorem ix36 (xs : List Int) (hlen : xs.length < 1000) (h30 : ∀ (x : Int) S O, F 30 [.s (.i .u64 x)] S O = some (.s (.b (x != 0)), S, O)) :
    ValidAt Try.prog 36 [.l xs.length (xs.map fun x => .s (.i .u64 x)), .f 30 [] []] [] [] (.s (.i .i64 (firstOf xs 0))) [] [] := by
  refine valid_of_awp Try.func36 rfl (by simp [Try.ntmps36]) ?_
  refine XW_sound (esc := fun _ => false) orders hF hq _ _ _ ?_
  simp only [Try.ntmps36, ↓XW, xOps, xStep, dOps, dRun, wild, yRun, yStep, yOp, cls, Am.dropL, aWant, xOp, xPure, rd, xCall, calleeAV, Option.bind_some, Option.bind_none, Option.map_some, Option.map_none, St.put, List.getD_cons_succ, List.getD_cons_zero, List.length_cons, List.length_nil, Array.toList, ofV, toV, ofC, List.set_cons_succ, List.set_cons_zero, List.cons_append, List.nil_append, List.append_nil, AV.cells?, newBox, St.setAt, boxCells, List.getElem?_cons_succ, List.getElem?_cons_zero, Nat.zero_add, Nat.add_zero, Option.any_some, Option.any_none, frame0, List.reduceReplicate, bin_i, bin_fl, bin_cadd, bin_csub, bin_cmul, bin_ceql, intBin, shiftBin, isShift, getB, strip, List.map_cons, List.map_nil, List.drop_zero, List.drop_succ_cons, AV.nrmL, AV.nrm, plainL, argCells, St.freezeIn, noRow, List.flatten_cons, List.flatten_nil, List.all_cons, List.all_nil, Option.getD_some, List.getElem?_toArray, Option.bind_fun_some, beq_true, beq_false, partsAV, xStoreOp, isOwn, isBox, xStore, setB, okScope, splice, AV.one, notW, AV.data, Nat.zero_le, decide_true, decide_false, Bool.false_or, Bool.true_or, idx, lenAV, finAV, resList, resOne, loadAV, single, AV.bel, AV.belL, List.take_zero, List.take_nil, List.take_succ_cons, Bool.false_eq_true, Bool.true_and, Bool.and_true, Bool.and_self, Bool.not_true, Bool.not_false, beq_self_eq_true, reduceIte, reduceCtorEq, Nat.reduceLT, Nat.reduceAdd, Nat.reduceSub, Nat.reduceMul, Nat.reduceLeDiff, Nat.reducePow, Nat.reduceEqDiff, Nat.reduceBEq, Int.reduceLT, Int.reduceLE, Int.reduceToNat, Int.reduceEq, Int.reduceNeg, and_self, and_true, true_and, false_or, or_false, or_true, true_or, Bool.or_self, Bool.or_false, Bool.or_true, ne_eq, not_true_eq_false, not_false_eq_true, u61, show Try.f36.results.toList = [.tmp 4] from rfl]
  refine AWP.loopK [true, true, true, true, true, false, true, true, true] (fun n st => ∃ j : Nat, j + n = xs.length ∧ firstOf xs 0 = firstOf (xs.drop j) j ∧ st = ⟨[.l xs.length (xs.map fun x => .s (.i .u64 x)), .f 30 [] [], .u, .u, .s (.i .i64 0), .u, .l xs.length (xs.map fun x => .s (.i .u64 x)), .s (.i .i64 xs.length), .s (.i .i64 j)] ++ List.replicate 10 .u,
    List.replicate 19 .dead, []⟩) xs.length ⟨0, by omega, rfl, rfl⟩ ?_
  rintro n st ⟨j, hj, hfo, rfl⟩
  refine XW_sound (esc := fun _ => false) orders hF hq _ _ _ ?_
  by_cases hlt : j < xs.length
  · have hd : decide ((j : Int) < xs.length) = true := by simpa using hlt
    have hix : idx (.s (.i .i64 (j : Int))) xs.length = some j := by simp [idx, hlt]
    have hld : partAV Try.prog 22 ((xs.map fun x => AV.s (.i .u64 x)).drop (j * 1)) 0 = some (.s (.i .u64 xs[j])) := by
      simp [partAV, ag22, sz22, hlt]
    have hw : IntKind.i64.wrap ((j : Int) + 1) = ((j + 1 : Nat) : Int) := by rw [wrap64 (by omega) (by omega)]; omega
    have hix' : (if 0 ≤ (j : Int) ∧ (j : Int) < (xs.length : Int) then some (j : Int).toNat else none) = some j := hix
    simp only [↓XW, xOps, xStep, dOps, dRun, wild, yRun, yStep, yOp, cls, Am.dropL, aWant, xOp, xPure, rd, xCall, calleeAV, Option.bind_some, Option.bind_none, Option.map_some, Option.map_none, St.put, List.getD_cons_succ, List.getD_cons_zero, List.length_cons, List.length_nil, Array.toList, ofV, toV, ofC, List.set_cons_succ, List.set_cons_zero, List.cons_append, List.nil_append, List.append_nil, AV.cells?, newBox, St.setAt, boxCells, List.getElem?_cons_succ, List.getElem?_cons_zero, Nat.zero_add, Nat.add_zero, Option.any_some, Option.any_none, frame0, List.reduceReplicate, bin_i, bin_fl, bin_cadd, bin_csub, bin_cmul, bin_ceql, intBin, shiftBin, isShift, getB, strip, List.map_cons, List.map_nil, List.drop_zero, List.drop_succ_cons, AV.nrmL, AV.nrm, plainL, argCells, St.freezeIn, noRow, List.flatten_cons, List.flatten_nil, List.all_cons, List.all_nil, Option.getD_some, List.getElem?_toArray, Option.bind_fun_some, beq_true, beq_false, partsAV, xStoreOp, isOwn, isBox, xStore, setB, okScope, splice, AV.one, notW, AV.data, Nat.zero_le, decide_true, decide_false, Bool.false_or, Bool.true_or, idx, lenAV, finAV, resList, resOne, loadAV, single, AV.bel, AV.belL, List.take_zero, List.take_nil, List.take_succ_cons, Bool.false_eq_true, Bool.true_and, Bool.and_true, Bool.and_self, Bool.not_true, Bool.not_false, beq_self_eq_true, reduceIte, reduceCtorEq, Nat.reduceLT, Nat.reduceAdd, Nat.reduceSub, Nat.reduceMul, Nat.reduceLeDiff, Nat.reducePow, Nat.reduceEqDiff, Nat.reduceBEq, Int.reduceLT, Int.reduceLE, Int.reduceToNat, Int.reduceEq, Int.reduceNeg, and_self, and_true, true_and, false_or, or_false, or_true, true_or, Bool.or_self, Bool.or_false, Bool.or_true, ne_eq, not_true_eq_false, not_false_eq_true, hd, hw, hix', hld, sl61, sz22, hb30, h30, thenA, St.only, wkL, show Try.f36.results.toList = [.tmp 4] from rfl]
    have hdrop : xs.drop j = xs[j] :: xs.drop (j + 1) := List.drop_eq_getElem_cons hlt
    rw [hdrop, firstOf] at hfo
    split
    · rename_i hne
      rw [if_pos hne] at hfo
      rw [hfo]
    · rename_i hne
      rw [if_neg hne] at hfo
      exact ⟨n - 1, by omega, j + 1, by omega, hfo, rfl⟩
  · have hd : decide ((j : Int) < xs.length) = false := by simpa using hlt
    have hj0 : xs.drop j = [] := List.drop_eq_nil_of_le (by omega)
    rw [hj0] at hfo
    simp only [↓XW, xOps, xStep, dOps, dRun, wild, yRun, yStep, yOp, cls, Am.dropL, aWant, xOp, xPure, rd, xCall, calleeAV, Option.bind_some, Option.bind_none, Option.map_some, Option.map_none, St.put, List.getD_cons_succ, List.getD_cons_zero, List.length_cons, List.length_nil, Array.toList, ofV, toV, ofC, List.set_cons_succ, List.set_cons_zero, List.cons_append, List.nil_append, List.append_nil, AV.cells?, newBox, St.setAt, boxCells, List.getElem?_cons_succ, List.getElem?_cons_zero, Nat.zero_add, Nat.add_zero, Option.any_some, Option.any_none, frame0, List.reduceReplicate, bin_i, bin_fl, bin_cadd, bin_csub, bin_cmul, bin_ceql, intBin, shiftBin, isShift, getB, strip, List.map_cons, List.map_nil, List.drop_zero, List.drop_succ_cons, AV.nrmL, AV.nrm, plainL, argCells, St.freezeIn, noRow, List.flatten_cons, List.flatten_nil, List.all_cons, List.all_nil, Option.getD_some, List.getElem?_toArray, Option.bind_fun_some, beq_true, beq_false, partsAV, xStoreOp, isOwn, isBox, xStore, setB, okScope, splice, AV.one, notW, AV.data, Nat.zero_le, decide_true, decide_false, Bool.false_or, Bool.true_or, idx, lenAV, finAV, resList, resOne, loadAV, single, AV.bel, AV.belL, List.take_zero, List.take_nil, List.take_succ_cons, Bool.false_eq_true, Bool.true_and, Bool.and_true, Bool.and_self, Bool.not_true, Bool.not_false, beq_self_eq_true, reduceIte, reduceCtorEq, Nat.reduceLT, Nat.reduceAdd, Nat.reduceSub, Nat.reduceMul, Nat.reduceLeDiff, Nat.reducePow, Nat.reduceEqDiff, Nat.reduceBEq, Int.reduceLT, Int.reduceLE, Int.reduceToNat, Int.reduceEq, Int.reduceNeg, and_self, and_true, true_and, false_or, or_false, or_true, true_or, Bool.or_self, Bool.or_false, Bool.or_true, ne_eq, not_true_eq_false, not_false_eq_true, hd, thenA, St.only, wkL, show Try.f36.results.toList = [.tmp 4] from rfl]
    rw [hfo]; rfl

omit hF hq in
theorem firstOf_spec (xs : List Int) : ∀ i : Nat, decide (firstOf xs i ≥ 0) = xs.any (· != 0) := by
  induction xs with
  | nil => intro i; simp [firstOf]
  | cons x xs ih =>
    intro i
    by_cases h : (x != 0) = true
    · have e : firstOf (x :: xs) i = (i : Int) := by rw [firstOf, if_pos h]
      simp only [e, List.any_cons, h, Bool.true_or]
      exact decide_eq_true (by omega)
    · have e : firstOf (x :: xs) i = firstOf xs (i + 1) := by rw [firstOf, if_neg h]
      simp only [Bool.not_eq_true] at h
      simp only [e, List.any_cons, h, Bool.false_or, ih (i + 1)]

set_option maxRecDepth 4000 in
theorem cf29 (xs : List Int) (h36 : ∀ S O, F 36 [.l xs.length (xs.map fun x => .s (.i .u64 x)), .f 30 [] []] S O = some (.s (.i .i64 (firstOf xs 0)), S, O)) :
    ValidAt Try.prog 29 [.l xs.length (xs.map fun x => .s (.i .u64 x)), .f 30 [] []] [] [] (.s (.b (xs.any (· != 0)))) [] [] := by
  have hd := firstOf_spec xs 0
  refine valid_of_awp Try.func29 rfl (by simp [Try.ntmps29]) ?_
  refine XW_sound (esc := fun _ => false) orders hF hq _ _ _ ?_
  simp only [Try.ntmps29, ↓XW, xOps, xStep, dOps, dRun, wild, yRun, yStep, yOp, cls, Am.dropL, aWant, xOp, xPure, rd, xCall, calleeAV, Option.bind_some, Option.bind_none, Option.map_some, Option.map_none, St.put, List.getD_cons_succ, List.getD_cons_zero, List.length_cons, List.length_nil, Array.toList, ofV, toV, ofC, List.set_cons_succ, List.set_cons_zero, List.cons_append, List.nil_append, List.append_nil, AV.cells?, newBox, St.setAt, boxCells, List.getElem?_cons_succ, List.getElem?_cons_zero, Nat.zero_add, Nat.add_zero, Option.any_some, Option.any_none, frame0, List.reduceReplicate, bin_i, bin_fl, bin_cadd, bin_csub, bin_cmul, bin_ceql, intBin, shiftBin, isShift, getB, strip, List.map_cons, List.map_nil, List.drop_zero, List.drop_succ_cons, AV.nrmL, AV.nrm, plainL, argCells, St.freezeIn, noRow, List.flatten_cons, List.flatten_nil, List.all_cons, List.all_nil, Option.getD_some, List.getElem?_toArray, Option.bind_fun_some, beq_true, beq_false, partsAV, xStoreOp, isOwn, isBox, xStore, setB, okScope, splice, AV.one, notW, AV.data, Nat.zero_le, decide_true, decide_false, Bool.false_or, Bool.true_or, idx, lenAV, finAV, resList, resOne, loadAV, single, AV.bel, AV.belL, List.take_zero, List.take_nil, List.take_succ_cons, Bool.false_eq_true, Bool.true_and, Bool.and_true, Bool.and_self, Bool.not_true, Bool.not_false, beq_self_eq_true, reduceIte, reduceCtorEq, Nat.reduceLT, Nat.reduceAdd, Nat.reduceSub, Nat.reduceMul, Nat.reduceLeDiff, Nat.reducePow, Nat.reduceEqDiff, Nat.reduceBEq, Int.reduceLT, Int.reduceLE, Int.reduceToNat, Int.reduceEq, Int.reduceNeg, and_self, and_true, true_and, false_or, or_false, or_true, true_or, Bool.or_self, Bool.or_false, Bool.or_true, ne_eq, not_true_eq_false, not_false_eq_true, hb36, h36, show Try.f29.results.toList = [.tmp 4] from rfl]
  rw [← hd]
end
end Go.Am
