/-
  THE WALKS: GaugeDoubles.
-/
import Derived.Test.YtgbkilmgmnhokaaG33
set_option linter.unusedSimpArgs false
set_option linter.unusedVariables false
namespace Go.Am
open Go Go.Proofs Go.Fl

theorem zero24 : zeroO Try.prog 24 = some [.int .u64 0, .int .u64 0, .int .u64 0, .int .u64 0] := by kernel_rfl

def g5 (R : AV) (f : FuncId) (args : List AV) : AV := if f = 15 then R else gg f args

set_option exponentiation.threshold 1000 in
theorem mul_nr {N : Nat} (h : N + N < 2 ^ 256) : FloatKind.f64.format.mul 4611686018427387904 (nr N) = some (nr (N + N)) := by
  show Ieee.double.mul TWO (nr N) = _
  by_cases h0 : N = 0
  · subst h0
    rw [show (0 : Nat) + 0 = 0 from rfl, nr_zero]
    decide +kernel
  · have h1 := nr_low h0 (by omega)
    have h2 := (nr_fin (show N < 2 ^ 256 by omega)).2.1
    rw [two_mul h1 (by omega), ← Nat.two_mul, nr_two h0 (Nat.lt_of_lt_of_le (show N < 2 ^ 256 by omega) (Nat.pow_le_pow_right (by decide) (by decide)))]

set_option maxRecDepth 8000 in
theorem doubles5 {xs : List AV} {N : Nat} (h : isNum xs N) : ValidAt Try.prog 5 [.a xs] [] [] (.s (.b true)) [] [] := by
  obtain ⟨zs, ok, h15, hok, hno⟩ := add_spec h h
  have hz : ∃ K, isNum zs K ∧ (ok = true → K = N + N) := by
    cases ok with
    | true => exact ⟨N + N, hok rfl, fun _ => rfl⟩
    | false => obtain ⟨K, hK⟩ := hno rfl; exact ⟨K, hK, fun h => by cases h⟩
  obtain ⟨K, hK, hKN⟩ := hz
  have hlt := hK.lt
  have v12 := fun {ys : List AV} {M : Nat} (hy : isNum ys M) => (show ValidAt Try.prog 12 [.a ys] [] [] (.s (.fl .f64 (nr M))) [] [] from by
    obtain ⟨a0, a1, a2, a3, h0, h1, h2, h3, rfl, rfl⟩ := hy
    exact k12v h0 h1 h2 h3)
  have vx := v12 h
  have vz := v12 hK
  have hm : ok = true → FloatKind.f64.format.mul 4611686018427387904 (nr N) = some (nr K) := fun ho => by
    rw [hKN ho] at hlt ⊢
    exact mul_nr hlt
  have ho := order_nr hlt
  obtain ⟨a0, a1, a2, a3, _, _, _, _, rfl, hN⟩ := h
  obtain ⟨b0, b1, b2, b3, _, _, _, _, rfl, hKK⟩ := hK
  have hF := FK_valid Try.prog (g5 (.t [.a [.s (.i .u64 b0), .s (.i .u64 b1), .s (.i .u64 b2), .s (.i .u64 b3)], .s (.b ok)]))
  have hq := FK_calm Try.prog (g5 (.t [.a [.s (.i .u64 b0), .s (.i .u64 b1), .s (.i .u64 b2), .s (.i .u64 b3)], .s (.b ok)])) (fun _ => true)
  have f15 := FK_eq (g := g5 (.t [.a [.s (.i .u64 b0), .s (.i .u64 b1), .s (.i .u64 b2), .s (.i .u64 b3)], .s (.b ok)])) h15 rfl rfl rfl
  have f12 := FK_eq (g := g5 (.t [.a [.s (.i .u64 b0), .s (.i .u64 b1), .s (.i .u64 b2), .s (.i .u64 b3)], .s (.b ok)])) vx (by rw [hN]; rfl) rfl rfl
  have f12z := FK_eq (g := g5 (.t [.a [.s (.i .u64 b0), .s (.i .u64 b1), .s (.i .u64 b2), .s (.i .u64 b3)], .s (.b ok)])) vz (by rw [hKK]; rfl) rfl rfl
  have f11 := FK_eq (g := g5 (.t [.a [.s (.i .u64 b0), .s (.i .u64 b1), .s (.i .u64 b2), .s (.i .u64 b3)], .s (.b ok)])) turns11 rfl rfl rfl
  clear vx vz v12 h15 hok hno hlt hKN hN hKK
  generalize FK Try.prog (g5 (.t [.a [.s (.i .u64 b0), .s (.i .u64 b1), .s (.i .u64 b2), .s (.i .u64 b3)], .s (.b ok)])) = F at *
  generalize nr N = x at *
  generalize nr K = z at *
  cases ok with
  | true =>
    have hmm : Ieee.double.mul 4611686018427387904 x = some z := hm rfl
    refine valid_of_awp Try.func5 rfl (by simp [Try.ntmps5]) ?_
    refine XV_sound (esc := fun _ => false) orders hF hq _ _ _ ?_
    simp only [Try.ntmps5, ↓XV, isLoop, xOps, xStep, dOps, dRun, wild, yRun, yStep, yOp, cls, Am.dropL, aWant, xOp, xPure, rd, xCall, calleeAV, Option.bind_some, Option.bind_none, Option.map_some, Option.map_none, St.put, List.getD_cons_succ, List.getD_cons_zero, List.length_cons, List.length_nil, Array.toList, ofV, toV, ofC, List.set_cons_succ, List.set_cons_zero, List.cons_append, List.nil_append, List.append_nil, AV.cells?, newBox, St.setAt, boxCells, List.getElem?_cons_succ, List.getElem?_cons_zero, Nat.zero_add, Nat.add_zero, Option.any_some, Option.any_none, frame0, List.reduceReplicate, bin_i, bin_fl, bin_cadd, bin_csub, bin_cmul, bin_ceql, intBin, shiftBin, isShift, getB, strip, List.map_cons, List.map_nil, List.drop_zero, List.drop_succ_cons, AV.nrmL, AV.nrm, plainL, argCells, St.freezeIn, noRow, List.flatten_cons, List.flatten_nil, List.all_cons, List.all_nil, Option.getD_some, List.getElem?_toArray, Option.bind_fun_some, beq_true, beq_false, partsAV, xStoreOp, isOwn, isBox, xStore, setB, okScope, splice, AV.one, notW, AV.data, Nat.zero_le, decide_true, decide_false, Bool.false_or, Bool.true_or, idx, lenAV, finAV, resList, resOne, loadAV, single, AV.bel, AV.belL, List.take_zero, List.take_nil, List.take_succ_cons, Bool.false_eq_true, Bool.true_and, Bool.and_true, Bool.and_self, Bool.not_true, Bool.not_false, beq_self_eq_true, ↓reduceIte, reduceCtorEq, Nat.reduceLT, Nat.reduceAdd, Nat.reduceSub, Nat.reduceMul, Nat.reduceLeDiff, Nat.reducePow, Nat.reduceEqDiff, Nat.reduceBEq, Int.reduceLT, Int.reduceLE, Int.reduceGT, Int.reduceGE, Int.cast_ofNat_Int, Int.reduceBEq, Int.reduceSub, Int.reduceAdd, Int.reduceMul, Int.reduceToNat, Int.reduceEq, Int.reduceNeg, and_self, and_true, true_and, false_or, or_false, or_true, true_or, Bool.or_self, Bool.or_false, Bool.or_true, ne_eq, not_true_eq_false, not_false_eq_true, hb11, hb12, hb15, f11, f12, f12z, f15, hmm, f64, ho, zero24, pa24, sz24, show Try.f5.results.toList = [.tmp 2] from rfl]
    kernel_rfl
  | false =>
    refine valid_of_awp Try.func5 rfl (by simp [Try.ntmps5]) ?_
    refine XV_sound (esc := fun _ => false) orders hF hq _ _ _ ?_
    simp only [Try.ntmps5, ↓XV, isLoop, xOps, xStep, dOps, dRun, wild, yRun, yStep, yOp, cls, Am.dropL, aWant, xOp, xPure, rd, xCall, calleeAV, Option.bind_some, Option.bind_none, Option.map_some, Option.map_none, St.put, List.getD_cons_succ, List.getD_cons_zero, List.length_cons, List.length_nil, Array.toList, ofV, toV, ofC, List.set_cons_succ, List.set_cons_zero, List.cons_append, List.nil_append, List.append_nil, AV.cells?, newBox, St.setAt, boxCells, List.getElem?_cons_succ, List.getElem?_cons_zero, Nat.zero_add, Nat.add_zero, Option.any_some, Option.any_none, frame0, List.reduceReplicate, bin_i, bin_fl, bin_cadd, bin_csub, bin_cmul, bin_ceql, intBin, shiftBin, isShift, getB, strip, List.map_cons, List.map_nil, List.drop_zero, List.drop_succ_cons, AV.nrmL, AV.nrm, plainL, argCells, St.freezeIn, noRow, List.flatten_cons, List.flatten_nil, List.all_cons, List.all_nil, Option.getD_some, List.getElem?_toArray, Option.bind_fun_some, beq_true, beq_false, partsAV, xStoreOp, isOwn, isBox, xStore, setB, okScope, splice, AV.one, notW, AV.data, Nat.zero_le, decide_true, decide_false, Bool.false_or, Bool.true_or, idx, lenAV, finAV, resList, resOne, loadAV, single, AV.bel, AV.belL, List.take_zero, List.take_nil, List.take_succ_cons, Bool.false_eq_true, Bool.true_and, Bool.and_true, Bool.and_self, Bool.not_true, Bool.not_false, beq_self_eq_true, ↓reduceIte, reduceCtorEq, Nat.reduceLT, Nat.reduceAdd, Nat.reduceSub, Nat.reduceMul, Nat.reduceLeDiff, Nat.reducePow, Nat.reduceEqDiff, Nat.reduceBEq, Int.reduceLT, Int.reduceLE, Int.reduceGT, Int.reduceGE, Int.cast_ofNat_Int, Int.reduceBEq, Int.reduceSub, Int.reduceAdd, Int.reduceMul, Int.reduceToNat, Int.reduceEq, Int.reduceNeg, and_self, and_true, true_and, false_or, or_false, or_true, true_or, Bool.or_self, Bool.or_false, Bool.or_true, ne_eq, not_true_eq_false, not_false_eq_true, hb11, hb12, hb15, f11, f12, f15, zero24, pa24, sz24, show Try.f5.results.toList = [.tmp 2] from rfl]
    kernel_rfl

theorem run5 (avs : List AV) (h : ShArgs Try.prog 20 Try.f5.params.toList avs) : ValidAt Try.prog 5 avs [] [] (.s (.b true)) [] [] := by
  have e : Try.f5.params.toList = [24] := rfl
  rw [e] at h
  obtain ⟨xs, rest, rfl, h1, rfl⟩ := h
  obtain ⟨N, hN⟩ := sh24 h1
  rw [arg24]
  exact doubles5 hN
end Go.Am
