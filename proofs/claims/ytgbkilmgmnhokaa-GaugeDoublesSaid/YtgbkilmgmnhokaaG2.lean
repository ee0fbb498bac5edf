/-
  THE WALKS: turns.
-/
import Derived.Test.YtgbkilmgmnhokaaG1
set_option linter.unusedSimpArgs false
set_option linter.unusedVariables false
namespace Go.Am
open Go Go.Proofs Go.Fl

/-- A quarter, as the product with the unit above gives it. -/
def qre (a b : Nat) : Nat := ((Ieee.double.mul a 0).bind fun z => (Ieee.double.mul b ONE).bind fun y => Ieee.double.sub z y).getD 0
def qim (a b : Nat) : Nat := ((Ieee.double.mul a ONE).bind fun x => (Ieee.double.mul b 0).bind fun z => Ieee.double.add x z).getD 0

theorem quarter_spec {a b : Nat} (ha : fin a) (hb : fin b) : fin (qre a b) ∧ fin (qim a b) ∧ sv (qre a b) = - sv b ∧ sv (qim a b) = sv a := by
  obtain ⟨z1, z2, r, i, h1, h2, h3, h4, h5, h6, f1, f2, s1, s2⟩ := quarter ha hb
  have e1 : qre a b = r := by unfold qre; rw [h1, h2]; simp only [Option.bind_some, h3, Option.getD_some]
  have e2 : qim a b = i := by unfold qim; rw [h4, h5]; simp only [Option.bind_some, h6, Option.getD_some]
  rw [e1, e2]
  exact ⟨f1, f2, s1, s2⟩

theorem quarter_bin {P : Program} {T : TypeId} {x y : Operand} {a b : Nat} (ha : fin a) (hb : fin b) : binAV P .mul T x y (.s (.cx .f64 a b)) (.s (.cx .f64 0 4607182418800017408)) = some (.s (.cx .f64 (qre a b) (qim a b))) := by
  obtain ⟨z1, z2, r, i, h1, h2, h3, h4, h5, h6, f1, f2, s1, s2⟩ := quarter ha hb
  have e1 : qre a b = r := by unfold qre; rw [h1, h2]; simp only [Option.bind_some, h3, Option.getD_some]
  have e2 : qim a b = i := by unfold qim; rw [h4, h5]; simp only [Option.bind_some, h6, Option.getD_some]
  rw [e1, e2, bin_cmul]
  have g2 : Ieee.double.mul b 4607182418800017408 = some b := h2
  have g4 : Ieee.double.mul a 4607182418800017408 = some a := h4
  simp only [h1, g2, Option.bind_some, h3, g4, h5, h6]

/-- After so many quarters. -/
def turnN : Nat → Nat → Nat → Nat × Nat
  | 0, a, b => (a, b)
  | n + 1, a, b => (qre (turnN n a b).1 (turnN n a b).2, qim (turnN n a b).1 (turnN n a b).2)

theorem turnN_fin (n : Nat) {a b : Nat} (ha : fin a) (hb : fin b) : fin (turnN n a b).1 ∧ fin (turnN n a b).2 := by
  induction n with
  | zero => exact ⟨ha, hb⟩
  | succ n ih =>
    obtain ⟨f1, f2, _⟩ := quarter_spec ih.1 ih.2
    exact ⟨f1, f2⟩

theorem wrap64 {n : Int} (h0 : -9223372036854775808 ≤ n) (h1 : n ≤ 9223372036854775807) : IntKind.i64.wrap n = n := by
  simp [IntKind.wrap, IntKind.signed, IntKind.bits]
  omega

section
variable {F : Tab} (hF : F.valid Try.prog) (hq : Calm F (fun _ => true))
include hF hq

set_option maxRecDepth 4000 in
theorem turn21 (a b : Nat) (k : Int) (ha : fin a) (hb : fin b) (m : Nat) (hm4 : m < 4) (hm : (IntKind.i64.wrap (Int.tmod k 4 + 4)).tmod 4 = (m : Int)) :
    ValidAt Try.prog 21 [.s (.cx .f64 a b), .s (.i .i64 k)] [] [] (.s (.cx .f64 (turnN m a b).1 (turnN m a b).2)) [] [] := by
  refine valid_of_awp Try.func21 rfl (by simp [Try.ntmps21]) ?_
  refine XW_sound (esc := fun _ => false) orders hF hq _ _ _ ?_
  simp only [Try.ntmps21, ↓XW, xOps, xStep, dOps, dRun, wild, yRun, yStep, yOp, cls, Am.dropL, aWant, xOp, xPure, rd, xCall, calleeAV, Option.bind_some, Option.bind_none, Option.map_some, Option.map_none, St.put, List.getD_cons_succ, List.getD_cons_zero, List.length_cons, List.length_nil, Array.toList, ofV, toV, ofC, List.set_cons_succ, List.set_cons_zero, List.cons_append, List.nil_append, List.append_nil, AV.cells?, newBox, St.setAt, boxCells, List.getElem?_cons_succ, List.getElem?_cons_zero, Nat.zero_add, Nat.add_zero, Option.any_some, Option.any_none, frame0, List.reduceReplicate, bin_i, bin_fl, bin_cadd, bin_csub, bin_cmul, bin_ceql, intBin, shiftBin, isShift, getB, strip, List.map_cons, List.map_nil, List.drop_zero, List.drop_succ_cons, AV.nrmL, AV.nrm, plainL, argCells, St.freezeIn, noRow, List.flatten_cons, List.flatten_nil, List.all_cons, List.all_nil, Option.getD_some, List.getElem?_toArray, Option.bind_fun_some, beq_true, beq_false, partsAV, xStoreOp, isOwn, isBox, xStore, setB, okScope, splice, AV.one, notW, AV.data, Nat.zero_le, decide_true, decide_false, Bool.false_or, Bool.true_or, idx, lenAV, finAV, resList, resOne, loadAV, single, AV.bel, AV.belL, List.take_zero, List.take_nil, List.take_succ_cons, Bool.false_eq_true, Bool.true_and, Bool.and_true, Bool.and_self, Bool.not_true, Bool.not_false, beq_self_eq_true, reduceIte, reduceCtorEq, Nat.reduceLT, Nat.reduceAdd, Nat.reduceSub, Nat.reduceMul, Nat.reduceLeDiff, Nat.reducePow, Nat.reduceEqDiff, Nat.reduceBEq, Int.reduceLT, Int.reduceLE, Int.reduceToNat, Int.reduceEq, Int.reduceNeg, and_self, and_true, true_and, false_or, or_false, or_true, true_or, Bool.or_self, Bool.or_false, Bool.or_true, ne_eq, not_true_eq_false, not_false_eq_true, hm, show Try.f21.results.toList = [.tmp 4] from rfl]
  refine AWP.loopK [true, true, true, true, true, true, true, true, true, true] (fun n st => ∃ j : Nat, j + n = m ∧ st = ⟨[.s (.cx .f64 (turnN j a b).1 (turnN j a b).2), .s (.i .i64 k), .u, .u, .s (.cx .f64 0 0), .s (.i .i64 k), .s (.i .i64 (k.tmod 4)), .s (.i .i64 (IntKind.i64.wrap (k.tmod 4 + 4))), .s (.i .i64 m), .s (.i .i64 j), .u, .u, .u, .u, .u], List.replicate 15 .dead, []⟩) m ⟨0, by omega, rfl⟩ ?_
  rintro n st ⟨j, hj, rfl⟩
  refine XW_sound (esc := fun _ => false) orders hF hq _ _ _ ?_
  simp only [↓XW, xOps, xStep, dOps, dRun, wild, yRun, yStep, yOp, cls, Am.dropL, aWant, xOp, xPure, rd, xCall, calleeAV, Option.bind_some, Option.bind_none, Option.map_some, Option.map_none, St.put, List.getD_cons_succ, List.getD_cons_zero, List.length_cons, List.length_nil, Array.toList, ofV, toV, ofC, List.set_cons_succ, List.set_cons_zero, List.cons_append, List.nil_append, List.append_nil, AV.cells?, newBox, St.setAt, boxCells, List.getElem?_cons_succ, List.getElem?_cons_zero, Nat.zero_add, Nat.add_zero, Option.any_some, Option.any_none, frame0, List.reduceReplicate, bin_i, bin_fl, bin_cadd, bin_csub, bin_cmul, bin_ceql, intBin, shiftBin, isShift, getB, strip, List.map_cons, List.map_nil, List.drop_zero, List.drop_succ_cons, AV.nrmL, AV.nrm, plainL, argCells, St.freezeIn, noRow, List.flatten_cons, List.flatten_nil, List.all_cons, List.all_nil, Option.getD_some, List.getElem?_toArray, Option.bind_fun_some, beq_true, beq_false, partsAV, xStoreOp, isOwn, isBox, xStore, setB, okScope, splice, AV.one, notW, AV.data, Nat.zero_le, decide_true, decide_false, Bool.false_or, Bool.true_or, idx, lenAV, finAV, resList, resOne, loadAV, single, AV.bel, AV.belL, List.take_zero, List.take_nil, List.take_succ_cons, Bool.false_eq_true, Bool.true_and, Bool.and_true, Bool.and_self, Bool.not_true, Bool.not_false, beq_self_eq_true, reduceIte, reduceCtorEq, Nat.reduceLT, Nat.reduceAdd, Nat.reduceSub, Nat.reduceMul, Nat.reduceLeDiff, Nat.reducePow, Nat.reduceEqDiff, Nat.reduceBEq, Int.reduceLT, Int.reduceLE, Int.reduceToNat, Int.reduceEq, Int.reduceNeg, and_self, and_true, true_and, false_or, or_false, or_true, true_or, Bool.or_self, Bool.or_false, Bool.or_true, ne_eq, not_true_eq_false, not_false_eq_true, quarter_bin (turnN_fin j ha hb).1 (turnN_fin j ha hb).2, thenA, St.only, wkL, show Try.f21.results.toList = [.tmp 4] from rfl]
  split
  · rename_i hlt
    have hlt' : j < m := by simpa using hlt
    refine ⟨n - 1, by omega, j + 1, by omega, ?_⟩
    rw [wrap64 (n := (j : Int) + 1) (by omega) (by omega)]
    rfl
  · rename_i hlt
    have hlt' : ¬ j < m := by simpa using hlt
    have : j = m := by omega
    subst this; rfl
end
end Go.Am
