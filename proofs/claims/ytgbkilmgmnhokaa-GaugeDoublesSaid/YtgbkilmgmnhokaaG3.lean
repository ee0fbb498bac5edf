/-
  THE WALKS: the document's turns.
-/
import Derived.Test.YtgbkilmgmnhokaaG2
set_option linter.unusedSimpArgs false
set_option linter.unusedVariables false
namespace Go.Am
open Go Go.Proofs Go.Fl

def turnR : Nat → Nat → Nat → Nat × Nat
  | 0, a, b => (a, b)
  | n + 1, a, b => (ng (turnR n a b).2, (turnR n a b).1)

theorem turnR_fin (n : Nat) {a b : Nat} (ha : fin a) (hb : fin b) : fin (turnR n a b).1 ∧ fin (turnR n a b).2 := by
  induction n with
  | zero => exact ⟨ha, hb⟩
  | succ n ih => exact ⟨fin_ng ih.2, ih.1⟩

/-- Both turn alike. -/
theorem turn_same (n : Nat) {a b : Nat} (ha : fin a) (hb : fin b) : sv (turnN n a b).1 = sv (turnR n a b).1 ∧ sv (turnN n a b).2 = sv (turnR n a b).2 := by
  induction n with
  | zero => exact ⟨rfl, rfl⟩
  | succ n ih =>
    have h1 := turnN_fin n ha hb
    obtain ⟨_, _, s1, s2⟩ := quarter_spec h1.1 h1.2
    have h2 := turnR_fin n ha hb
    simp only [turnN, turnR]
    rw [s1, s2, sv_ng h2.2, ih.1, ih.2]
    exact ⟨rfl, rfl⟩

theorem xor_low {w : Nat} (h : w < 2 ^ 63) : w ^^^ 2 ^ 63 = 2 ^ 63 + w := by
  apply Nat.eq_of_testBit_eq
  intro i
  rw [Nat.testBit_xor, Nat.testBit_two_pow]
  rcases Nat.lt_trichotomy i 63 with hi | hi | hi
  · rw [Nat.testBit_two_pow_add_gt hi, decide_eq_false (by omega), Bool.xor_false]
  · subst hi
    rw [Nat.testBit_two_pow_add_eq, decide_eq_true rfl, Bool.xor_true]
  · have h1 : (2 ^ 63 + w).testBit i = false := Nat.testBit_lt_two_pow (Nat.lt_of_lt_of_le (show 2 ^ 63 + w < 2 ^ 64 by omega) (Nat.pow_le_pow_right (by omega) (by omega)))
    have h2 : w.testBit i = false := Nat.testBit_lt_two_pow (Nat.lt_of_lt_of_le h (Nat.pow_le_pow_right (by omega) (by omega)))
    rw [h1, h2, decide_eq_false (by omega), Bool.xor_false]

theorem xor_ng {w : Nat} (h : fin w) : w ^^^ 2 ^ 63 = ng w := by
  unfold ng
  rcases h with ⟨h1, _⟩ | ⟨h1, h2⟩
  · rw [if_pos h1, xor_low h1]
  · rw [if_neg (by omega)]
    have e := xor_low (w := w - 2 ^ 63) (by omega)
    have e2 : 2 ^ 63 + (w - 2 ^ 63) = w := by omega
    rw [e2] at e
    rw [← e, Nat.xor_assoc, Nat.xor_self, Nat.xor_zero, e]

theorem un_neg {P : Program} {w : Nat} (h : fin w) : scVal P (Op.unary .neg (Sc.fl .f64 w).val) = some (.s (.fl .f64 (ng w))) := by
  rw [← xor_ng h]; rfl

section
variable {F : Tab} (hF : F.valid Try.prog) (hq : Calm F (fun _ => true))
include hF hq

set_option maxRecDepth 4000 in
theorem turn22 (a b : Nat) (k : Int) (ha : fin a) (hb : fin b) (m : Nat) (hm4 : m < 4) (hm : (IntKind.i64.wrap (Int.tmod k 4 + 4)).tmod 4 = (m : Int)) :
    ValidAt Try.prog 22 [.a [.s (.fl .f64 a), .s (.fl .f64 b)], .s (.i .i64 k)] [] [] (.a [.s (.fl .f64 (turnR m a b).1), .s (.fl .f64 (turnR m a b).2)]) [] [] := by
  refine valid_of_awp Try.func22 rfl (by simp [Try.ntmps22]) ?_
  refine XW_sound (esc := fun _ => false) orders hF hq _ _ _ ?_
  simp only [Try.ntmps22, ↓XW, xOps, xStep, dOps, dRun, wild, yRun, yStep, yOp, cls, Am.dropL, aWant, xOp, xPure, rd, xCall, calleeAV, Option.bind_some, Option.bind_none, Option.map_some, Option.map_none, St.put, List.getD_cons_succ, List.getD_cons_zero, List.length_cons, List.length_nil, Array.toList, ofV, toV, ofC, List.set_cons_succ, List.set_cons_zero, List.cons_append, List.nil_append, List.append_nil, AV.cells?, newBox, St.setAt, boxCells, List.getElem?_cons_succ, List.getElem?_cons_zero, Nat.zero_add, Nat.add_zero, Option.any_some, Option.any_none, frame0, List.reduceReplicate, bin_i, bin_fl, bin_cadd, bin_csub, bin_cmul, bin_ceql, intBin, shiftBin, isShift, getB, strip, List.map_cons, List.map_nil, List.drop_zero, List.drop_succ_cons, AV.nrmL, AV.nrm, plainL, argCells, St.freezeIn, noRow, List.flatten_cons, List.flatten_nil, List.all_cons, List.all_nil, Option.getD_some, List.getElem?_toArray, Option.bind_fun_some, beq_true, beq_false, partsAV, xStoreOp, isOwn, isBox, xStore, setB, okScope, splice, AV.one, notW, AV.data, Nat.zero_le, decide_true, decide_false, Bool.false_or, Bool.true_or, idx, lenAV, finAV, resList, resOne, loadAV, single, AV.bel, AV.belL, List.take_zero, List.take_nil, List.take_succ_cons, Bool.false_eq_true, Bool.true_and, Bool.and_true, Bool.and_self, Bool.not_true, Bool.not_false, beq_self_eq_true, reduceIte, reduceCtorEq, Nat.reduceLT, Nat.reduceAdd, Nat.reduceSub, Nat.reduceMul, Nat.reduceLeDiff, Nat.reducePow, Nat.reduceEqDiff, Nat.reduceBEq, Int.reduceLT, Int.reduceLE, Int.reduceToNat, Int.reduceEq, Int.reduceNeg, and_self, and_true, true_and, false_or, or_false, or_true, true_or, Bool.or_self, Bool.or_false, Bool.or_true, ne_eq, not_true_eq_false, not_false_eq_true, hm, zero35, show Try.f22.results.toList = [.cell 4 35] from rfl]
  refine AWP.loopK [true, true, true, true, true, true] (fun n st => ∃ j : Nat, j + n = m ∧ st = ⟨[.a [.s (.fl .f64 a), .s (.fl .f64 b)], .s (.i .i64 k), .p (.s 2) 0, .u, .p (.s 4) 0, .s (.i .i64 j)] ++ List.replicate 15 .u,
    [.dead, .dead, .box 35 [.s (.fl .f64 (turnR j a b).1), .s (.fl .f64 (turnR j a b).2)], .dead, .box 35 [.s (.fl .f64 0), .s (.fl .f64 0)]] ++ List.replicate 16 .dead, []⟩) m ⟨0, by omega, rfl⟩ ?_
  rintro n st ⟨j, hj, rfl⟩
  refine XW_sound (esc := fun _ => false) orders hF hq _ _ _ ?_
  simp only [↓XW, xOps, xStep, dOps, dRun, wild, yRun, yStep, yOp, cls, Am.dropL, aWant, xOp, xPure, rd, xCall, calleeAV, Option.bind_some, Option.bind_none, Option.map_some, Option.map_none, St.put, List.getD_cons_succ, List.getD_cons_zero, List.length_cons, List.length_nil, Array.toList, ofV, toV, ofC, List.set_cons_succ, List.set_cons_zero, List.cons_append, List.nil_append, List.append_nil, AV.cells?, newBox, St.setAt, boxCells, List.getElem?_cons_succ, List.getElem?_cons_zero, Nat.zero_add, Nat.add_zero, Option.any_some, Option.any_none, frame0, List.reduceReplicate, bin_i, bin_fl, bin_cadd, bin_csub, bin_cmul, bin_ceql, intBin, shiftBin, isShift, getB, strip, List.map_cons, List.map_nil, List.drop_zero, List.drop_succ_cons, AV.nrmL, AV.nrm, plainL, argCells, St.freezeIn, noRow, List.flatten_cons, List.flatten_nil, List.all_cons, List.all_nil, Option.getD_some, List.getElem?_toArray, Option.bind_fun_some, beq_true, beq_false, partsAV, xStoreOp, isOwn, isBox, xStore, setB, okScope, splice, AV.one, notW, AV.data, Nat.zero_le, decide_true, decide_false, Bool.false_or, Bool.true_or, idx, lenAV, finAV, resList, resOne, loadAV, single, AV.bel, AV.belL, List.take_zero, List.take_nil, List.take_succ_cons, Bool.false_eq_true, Bool.true_and, Bool.and_true, Bool.and_self, Bool.not_true, Bool.not_false, beq_self_eq_true, reduceIte, reduceCtorEq, Nat.reduceLT, Nat.reduceAdd, Nat.reduceSub, Nat.reduceMul, Nat.reduceLeDiff, Nat.reducePow, Nat.reduceEqDiff, Nat.reduceBEq, Int.reduceLT, Int.reduceLE, Int.reduceToNat, Int.reduceEq, Int.reduceNeg, and_self, and_true, true_and, false_or, or_false, or_true, true_or, Bool.or_self, Bool.or_false, Bool.or_true, ne_eq, not_true_eq_false, not_false_eq_true, un_neg (turnR_fin j ha hb).2, hm, build35, sz26, sz35, ag26, ag35, fo350, fo351, partAV, thenA, St.only, wkL, show Try.f22.results.toList = [.cell 4 35] from rfl]
  split
  · rename_i hlt
    have hlt' : j < m := by simpa using hlt
    refine ⟨n - 1, by omega, j + 1, by omega, ?_⟩
    rw [wrap64 (n := (j : Int) + 1) (by omega) (by omega)]
    rfl
  · rename_i hlt
    have hlt' : ¬ j < m := by simpa using hlt
    have : j = m := by omega
    subst this; rfl
end
end Go.Am
